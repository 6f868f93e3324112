/- A ring of nodes, linked both ways, plainly: what 'out' and 'in' do to it. Conditions: none. -/
import Derived.Test.YtkbcfagggjfhhaaBaseL
namespace Go.Proofs.Ytkbcfagggjfhhaa
set_option maxRecDepth 100000
open Go.RowKit

/-- A node: a key, a value, the blocks of the younger and of the elder one. -/
structure Node where
  k : Value
  v : Value
  y : Nat
  e : Nat

def Links (f : Nat → Node) : List Nat → Prop
  | a :: b :: l => (f a).e = b ∧ (f b).y = a ∧ Links f (b :: l)
  | _ => True

def setE (f : Nat → Node) (b x : Nat) : Nat → Node := fun i => if i = b then { f i with e := x } else f i
def setY (f : Nat → Node) (b x : Nat) : Nat → Node := fun i => if i = b then { f i with y := x } else f i
def setV (f : Nat → Node) (b : Nat) (x : Value) : Nat → Node := fun i => if i = b then { f i with v := x } else f i

section
variable {f g : Nat → Node} {a b i x r n : Nat} {l l1 l2 bs : List Nat}
theorem setE_e : (setE f b x i).e = if i = b then x else (f i).e := by unfold setE; split <;> rfl
theorem setE_y : (setE f b x i).y = (f i).y := by unfold setE; split <;> rfl
theorem setE_k : (setE f b x i).k = (f i).k := by unfold setE; split <;> rfl
theorem setE_v : (setE f b x i).v = (f i).v := by unfold setE; split <;> rfl
theorem setY_y : (setY f b x i).y = if i = b then x else (f i).y := by unfold setY; split <;> rfl
theorem setY_e : (setY f b x i).e = (f i).e := by unfold setY; split <;> rfl
theorem setY_k : (setY f b x i).k = (f i).k := by unfold setY; split <;> rfl
theorem setY_v : (setY f b x i).v = (f i).v := by unfold setY; split <;> rfl
theorem setV_v {u : Value} : (setV f b u i).v = if i = b then u else (f i).v := by unfold setV; split <;> rfl
theorem setV_y {u : Value} : (setV f b u i).y = (f i).y := by unfold setV; split <;> rfl
theorem setV_e {u : Value} : (setV f b u i).e = (f i).e := by unfold setV; split <;> rfl
theorem setV_k {u : Value} : (setV f b u i).k = (f i).k := by unfold setV; split <;> rfl

theorem links_append : ∀ (l1 : List Nat), Links f (l1 ++ a :: l2) ↔ Links f (l1 ++ [a]) ∧ Links f (a :: l2)
  | [] => by simp [Links]
  | [x] => by simp [Links, and_assoc]
  | x :: y :: l => by
    have ih := links_append (y :: l)
    simp only [List.cons_append, Links] at ih ⊢
    rw [ih]
    simp only [and_assoc]

theorem links_congr : ∀ (l : List Nat), (∀ a ∈ l.dropLast, (g a).e = (f a).e) → (∀ a ∈ l.tail, (g a).y = (f a).y) → Links f l → Links g l
  | [], _, _, _ => trivial
  | [x], _, _, _ => trivial
  | x :: y :: l, he, hy, h => by
    obtain ⟨h1, h2, h3⟩ := h
    refine ⟨(he x (by simp)).trans h1, (hy y (by simp)).trans h2, links_congr (y :: l) (fun a ha => he a (by simp only [List.dropLast_cons_cons]; exact List.mem_cons_of_mem _ ha)) (fun a ha => hy a (by simp only [List.tail_cons] at ha ⊢; exact List.mem_cons_of_mem _ ha)) h3⟩

/-- Around the ring r: by 'elder' through bs and back. -/
def Cyc (f : Nat → Node) (r : Nat) (bs : List Nat) : Prop := (r :: bs).Nodup ∧ Links f (r :: (bs ++ [r]))

theorem Cyc.first (h : Cyc f r bs) : (f r).e = (bs ++ [r]).headD r := by
  cases bs with
  | nil => exact h.2.1
  | cons b bs => exact h.2.1
theorem Cyc.last (h : Cyc f r (bs ++ [x])) : (f r).y = x := by
  have h2 := h.2
  rw [show r :: (bs ++ [x] ++ [r]) = (r :: bs) ++ x :: [r] by simp, links_append] at h2
  exact h2.2.2.1
theorem Cyc.last_nil (h : Cyc f r []) : (f r).y = r := h.2.2.1
theorem links_at : ∀ (l : List Nat) (i d : Nat), Links f l → i + 1 < l.length → (f (l.getD i d)).e = l.getD (i + 1) d
  | [], i, d, _, h => by simp at h
  | [x], i, d, _, h => by simp at h
  | x :: y :: l, 0, d, h, _ => h.1
  | x :: y :: l, i + 1, d, h, hi => links_at (y :: l) i d h.2.2 (by simpa using hi)
/-- The i-th node from the youngest on; behind the eldest the ring. -/
def ngh (bs : List Nat) (r i : Nat) : Nat := (bs ++ [r]).getD i r
theorem Cyc.step (h : Cyc f r bs) {i : Nat} (hi : i < bs.length) : (f (ngh bs r i)).e = ngh bs r (i + 1) := by
  have := links_at _ (i + 1) r h.2 (by simp; omega)
  simpa [ngh] using this
theorem Cyc.start (h : Cyc f r bs) : (f r).e = ngh bs r 0 := by
  have := links_at _ 0 r h.2 (by simp)
  simpa [ngh] using this
theorem ngh_lt {i : Nat} (hi : i < bs.length) : ngh bs r i = bs[i] := by
  unfold ngh
  rw [List.getD_eq_getElem?_getD, List.getElem?_append_left hi, List.getElem?_eq_getElem hi]; rfl
theorem ngh_end : ngh bs r bs.length = r := by
  unfold ngh
  rw [List.getD_eq_getElem?_getD, List.getElem?_append_right (Nat.le_refl _)]; simp
theorem Cyc.ngh_ne (h : Cyc f r bs) {i : Nat} (hi : i < bs.length) : ngh bs r i ≠ r := by
  rw [ngh_lt hi]
  intro e
  have nd := h.1
  rw [List.nodup_cons] at nd
  exact nd.1 (e ▸ List.getElem_mem hi)
theorem Cyc.ngh_mem {i : Nat} (hi : i < bs.length) : ngh bs r i ∈ r :: bs := by
  rw [ngh_lt hi]; exact List.mem_cons_of_mem _ (List.getElem_mem hi)
theorem Cyc.empty (h1 : (f r).e = r) (h2 : (f r).y = r) : Cyc f r [] := ⟨by simp, h1, h2, trivial⟩

/-- Of a node within the ring: who stands before it, who behind it. -/
theorem Cyc.around (h : Cyc f r (l1 ++ n :: l2)) : ∃ l1' p s l2', r :: l1 = l1' ++ [p] ∧ l2 ++ [r] = s :: l2' ∧ (f n).y = p ∧ (f n).e = s ∧ (f p).e = n ∧ (f s).y = n ∧ Links f (l1' ++ [p]) ∧ Links f (s :: l2') := by
  obtain ⟨l1', p, h1⟩ : ∃ l1' p, r :: l1 = l1' ++ [p] := ⟨_, _, (List.dropLast_concat_getLast (l := r :: l1) (by simp)).symm⟩
  obtain ⟨s, l2', h2⟩ : ∃ s l2', l2 ++ [r] = s :: l2' := by
    cases l2 with
    | nil => exact ⟨r, [], rfl⟩
    | cons s l => exact ⟨s, l ++ [r], rfl⟩
  have h3 := h.2
  rw [show r :: (l1 ++ n :: l2 ++ [r]) = (r :: l1) ++ n :: (l2 ++ [r]) by simp, h1, h2, show (l1' ++ [p]) ++ n :: s :: l2' = l1' ++ p :: (n :: s :: l2') by simp, links_append] at h3
  obtain ⟨h4, h5, h6, h7, h8, h9⟩ := h3
  exact ⟨l1', p, s, l2', h1, h2, h6, h7, h5, h8, h4, h9⟩

def outL (f : Nat → Node) (n : Nat) : Nat → Node := setY (setE f (f n).y (f n).e) (f n).e (f n).y

theorem cyc_out (h : Cyc f r (l1 ++ n :: l2)) : Cyc (outL f n) r (l1 ++ l2) := by
  obtain ⟨l1', p, s, l2', h1, h2, h3, h4, h5, h6, h7, h8⟩ := h.around
  have nd := h.1
  have nd' : (r :: (l1 ++ l2)).Nodup := by
    refine nd.sublist ?_
    simp
  refine ⟨nd', ?_⟩
  rw [show r :: (l1 ++ l2 ++ [r]) = (r :: l1) ++ (l2 ++ [r]) by simp, h1, h2, show (l1' ++ [p]) ++ s :: l2' = l1' ++ p :: s :: l2' by simp, links_append]
  unfold outL
  rw [h3, h4]
  have ndl : (r :: l1).Nodup := nd.sublist (by simp)
  rw [h1] at ndl
  have hpl : p ∉ l1' := fun hp => by
    rw [List.nodup_append] at ndl
    exact ndl.2.2 p hp p (by simp) rfl
  have ndr : (l2 ++ [r]).Nodup := by
    have : (r :: l2).Nodup := nd.sublist (by simp)
    exact (List.perm_append_singleton r l2).nodup_iff.2 this
  rw [h2] at ndr
  -- the one behind lies not among those ahead, but for the ring
  have hsl : ∀ a ∈ l1, a ≠ s := fun a ha e => by
    have hs : s ∈ l2 ++ [r] := by rw [h2]; simp
    subst e
    simp only [List.nodup_cons, List.nodup_append, List.mem_append, List.mem_cons, not_or] at nd
    rcases List.mem_append.1 hs with hs | hs
    · exact nd.2.2.2 a ha a (by simp [hs]) rfl
    · simp only [List.mem_singleton] at hs
      subst hs
      exact nd.1.1 ha
  have hpr : ∀ a ∈ l2, a ≠ p := fun a ha e => by
    have hp : p ∈ r :: l1 := by rw [h1]; simp
    subst e
    simp only [List.nodup_cons, List.nodup_append, List.mem_append, List.mem_cons, not_or] at nd
    rcases List.mem_cons.1 hp with hp | hp
    · subst hp; exact nd.1.2.2 ha
    · exact nd.2.2.2 a hp a (by simp [ha]) rfl
  refine ⟨links_congr _ ?_ ?_ h7, ?_, ?_, links_congr _ ?_ ?_ h8⟩
  · intro a ha
    rw [List.dropLast_concat] at ha
    rw [setY_e, setE_e, if_neg (fun e : a = p => hpl (e ▸ ha))]
  · intro a ha
    rw [← h1] at ha
    rw [setY_y, setE_y, if_neg (hsl a ha)]
  · rw [setY_e, setE_e, if_pos rfl]
  · rw [setY_y, if_pos rfl]
  · intro a ha
    have ha' : a ∈ l2 := by rw [← h2, List.dropLast_concat] at ha; exact ha
    rw [setY_e, setE_e, if_neg (hpr a ha')]
  · intro a ha
    have has : a ≠ s := fun e => by
      simp only [List.tail_cons] at ha
      simp only [List.nodup_cons] at ndr
      exact ndr.1 (e ▸ ha)
    rw [setY_y, setE_y, if_neg has]

def inL (f : Nat → Node) (r n : Nat) : Nat → Node := setY (setE (setE (setY f n r) n (f r).e) r n) (f r).e n

theorem cyc_in (h : Cyc f r bs) (hn : n ∉ r :: bs) : Cyc (inL f r n) r (n :: bs) := by
  have nd := h.1
  refine ⟨?_, ?_⟩
  · simp only [List.nodup_cons, List.mem_cons, not_or] at nd hn ⊢
    exact ⟨⟨fun e => hn.1 e.symm, nd.1⟩, hn.2, nd.2⟩
  have hf := h.first
  obtain ⟨s, l2', h2⟩ : ∃ s l2', bs ++ [r] = s :: l2' := by
    cases bs with
    | nil => exact ⟨r, [], rfl⟩
    | cons s l => exact ⟨s, l ++ [r], rfl⟩
  have h3 := h.2
  rw [h2] at hf h3
  simp only [List.headD_cons] at hf
  have hsn : s ≠ n := fun e => by
    have : s ∈ bs ++ [r] := by rw [h2]; simp
    apply hn
    rw [← e]
    rcases List.mem_append.1 this with h | h
    · exact List.mem_cons_of_mem _ h
    · rw [List.mem_singleton.1 h]; simp
  have hrn : r ≠ n := fun e => hn (by simp [e])
  rw [show r :: (n :: bs ++ [r]) = r :: n :: (bs ++ [r]) by simp, h2]
  unfold inL
  rw [hf]
  have ndr : (bs ++ [r]).Nodup := (List.perm_append_singleton r bs).nodup_iff.2 nd
  rw [h2] at ndr
  have hn' : ∀ a ∈ s :: l2', a ≠ n := fun a ha e => by
    rw [← h2] at ha
    apply hn
    rw [← e]
    rcases List.mem_append.1 ha with h | h
    · exact List.mem_cons_of_mem _ h
    · rw [List.mem_singleton.1 h]; simp
  refine ⟨?_, ?_, ?_, ?_, links_congr _ ?_ ?_ h3.2.2⟩
  · rw [setY_e, setE_e, if_pos rfl]
  · rw [setY_y, if_neg (fun e => hsn e.symm), setE_y, setE_y, setY_y, if_pos rfl]
  · rw [setY_e, setE_e, if_neg (fun e => hrn e.symm), setE_e, if_pos rfl]
  · rw [setY_y, if_pos rfl]
  · intro a ha
    have ha' : a ∈ bs := by rw [← h2, List.dropLast_concat] at ha; exact ha
    have har : a ≠ r := fun e => by simp only [List.nodup_cons] at nd; exact nd.1 (e ▸ ha')
    have han : a ≠ n := hn' a (by rw [← h2]; exact List.mem_append_left _ ha')
    rw [setY_e, setE_e, if_neg har, setE_e, if_neg han, setY_e]
  · intro a ha
    have has : a ≠ s := fun e => by
      simp only [List.tail_cons] at ha
      simp only [List.nodup_cons] at ndr
      exact ndr.1 (e ▸ ha)
    have han : a ≠ n := hn' a (List.mem_of_mem_tail ha)
    rw [setY_y, if_neg has, setE_y, setE_y, setY_y, if_neg han]

theorem outL_k : (outL f n i).k = (f i).k := by unfold outL; rw [setY_k, setE_k]
theorem outL_v : (outL f n i).v = (f i).v := by unfold outL; rw [setY_v, setE_v]
theorem inL_k : (inL f r n i).k = (f i).k := by unfold inL; rw [setY_k, setE_k, setE_k, setY_k]
theorem inL_v : (inL f r n i).v = (f i).v := by unfold inL; rw [setY_v, setE_v, setE_v, setY_v]
theorem Cyc.congr (h : Cyc f r bs) (he : ∀ i ∈ r :: bs, (g i).e = (f i).e) (hy : ∀ i ∈ r :: bs, (g i).y = (f i).y) : Cyc g r bs :=
  ⟨h.1, links_congr _ (fun a ha => he a (by rw [show r :: (bs ++ [r]) = (r :: bs) ++ [r] by simp, List.dropLast_concat] at ha; exact ha)) (fun a ha => hy a (by
    simp only [List.tail_cons] at ha
    rcases List.mem_append.1 ha with h | h
    · exact List.mem_cons_of_mem _ h
    · rw [List.mem_singleton.1 h]; simp)) h.2⟩
theorem Cyc.mem_y (h : Cyc f r (l1 ++ n :: l2)) : (f n).y ∈ r :: (l1 ++ n :: l2) := by
  obtain ⟨l1', p, s, l2', h1, h2, h3, h4, h5, h6, h7, h8⟩ := h.around
  have : p ∈ r :: l1 := by rw [h1]; simp
  rw [h3]
  rcases List.mem_cons.1 this with rfl | h
  · simp
  · simp [h]
theorem Cyc.mem_e (h : Cyc f r (l1 ++ n :: l2)) : (f n).e ∈ r :: (l1 ++ n :: l2) := by
  obtain ⟨l1', p, s, l2', h1, h2, h3, h4, h5, h6, h7, h8⟩ := h.around
  have : s ∈ l2 ++ [r] := by rw [h2]; simp
  rw [h4]
  rcases List.mem_append.1 this with h | h
  · simp [h]
  · rw [List.mem_singleton.1 h]; simp
theorem Cyc.mem_first (h : Cyc f r bs) : (f r).e ∈ r :: bs := by
  rw [h.first]
  cases bs with
  | nil => simp
  | cons b l => simp
end

/-- The nodes' blocks. -/
def Ptr (b : Nat) : Value := .pointer (some ⟨b, 0, none⟩)
def cellsOf (x : Node) : Array Value := #[x.k, x.v, Ptr x.y, Ptr x.e]
def Nodes (T : TypeId) (f : Nat → Node) (S : List Nat) (w : World) : Prop := ∀ b ∈ S, w.heap[b]? = some (.cells (cellsOf (f b)) T (0, 0))

section
variable {T : TypeId} {f : Nat → Node} {S S' : List Nat} {w w' : World} {b x : Nat}
theorem Nodes.set {g : Nat → Node} (h : Nodes T f S w) (hb : b ∈ S) {j : Nat} {v : Value} (hg : ∀ i, i ≠ b → g i = f i) (hc : cellsOf (g b) = (cellsOf (f b)).setIfInBounds j v) : Nodes T g S (w.setCell ⟨b, j, none⟩ v) := by
  intro i hi
  by_cases e : i = b
  · subst e
    rw [heap_setC (h i hi), hc]
  · rw [heap_setO (h i hi) v e, hg i e]
theorem Nodes.setE (h : Nodes T f S w) (hb : b ∈ S) (x : Nat) : Nodes T (setE f b x) S (w.setCell ⟨b, 3, none⟩ (Ptr x)) :=
  h.set hb (fun i hi => by unfold Go.Proofs.Ytkbcfagggjfhhaa.setE; rw [if_neg hi]) (by unfold Go.Proofs.Ytkbcfagggjfhhaa.setE; rw [if_pos rfl]; rfl)
theorem Nodes.setY (h : Nodes T f S w) (hb : b ∈ S) (x : Nat) : Nodes T (setY f b x) S (w.setCell ⟨b, 2, none⟩ (Ptr x)) :=
  h.set hb (fun i hi => by unfold Go.Proofs.Ytkbcfagggjfhhaa.setY; rw [if_neg hi]) (by unfold Go.Proofs.Ytkbcfagggjfhhaa.setY; rw [if_pos rfl]; rfl)
theorem Nodes.setV (h : Nodes T f S w) (hb : b ∈ S) (x : Value) : Nodes T (setV f b x) S (w.setCell ⟨b, 1, none⟩ x) :=
  h.set hb (fun i hi => by unfold Go.Proofs.Ytkbcfagggjfhhaa.setV; rw [if_neg hi]) (by unfold Go.Proofs.Ytkbcfagggjfhhaa.setV; rw [if_pos rfl]; rfl)
theorem Nodes.keep {F : Nat → Prop} (h : Nodes T f S w) (hf : Fr F w w') (hs : ∀ b ∈ S, ¬ F b) : Nodes T f S w' := fun b hb => hf.at (h b hb) (hs b hb)
theorem Nodes.sub (h : Nodes T f S w) (hs : ∀ b ∈ S', b ∈ S) : Nodes T f S' w := fun b hb => h b (hs b hb)
theorem Nodes.drew (h : Nodes T f S w) : Nodes T f S w.drew := h
theorem Nodes.open (h : Nodes T f S w) (hb : b ∈ S) : w.cell? ⟨b, 0, none⟩ = some (f b).k ∧ w.cell? ⟨b, 1, none⟩ = some (f b).v ∧ w.cell? ⟨b, 2, none⟩ = some (Ptr (f b).y) ∧ w.cell? ⟨b, 3, none⟩ = some (Ptr (f b).e) ∧ w.frozen? ⟨b, 0, none⟩ = false ∧ w.frozen? ⟨b, 1, none⟩ = false ∧ w.frozen? ⟨b, 2, none⟩ = false ∧ w.frozen? ⟨b, 3, none⟩ = false :=
  ⟨cell_at (h b hb) rfl, cell_at (h b hb) rfl, cell_at (h b hb) rfl, cell_at (h b hb) rfl, free_at (h b hb), free_at (h b hb), free_at (h b hb), free_at (h b hb)⟩
end
end Go.Proofs.Ytkbcfagggjfhhaa
