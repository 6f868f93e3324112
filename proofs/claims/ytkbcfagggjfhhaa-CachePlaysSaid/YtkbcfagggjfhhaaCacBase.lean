/- What a cache is in memory. Conditions: none. -/
import Derived.Test.YtkbcfagggjfhhaaPMap
import Derived.Maps.AppendAt
import Derived.LaidEqlPtr
namespace Go.Proofs.Ytkbcfagggjfhhaa
set_option maxRecDepth 100000
open Go.RowKit
open Go.Maps (Keyed Tidy IsMap)

/-- How many elements a slice has. -/
def lenOf : Value → Nat | .slice _ n _ => n | _ => 0
theorem ownsRow_lenOf {w : World} {base : Nat} {e : TypeId} {size : Nat} {v : Value} {n : Nat} {xs : List Value} (h : w.ownsRow base e size v n xs) : lenOf v = n := by
  rcases h.2 with ⟨rfl, rfl⟩ | ⟨g, cap, cur, rfl, _⟩ <;> rfl
theorem run_neq_ptr_same {P : Program} (w : World) {tp te : TypeId} {j : TypeInfo} (a : Addr) (hp : P.underlying tp = some (.pointer te)) (hte : P.info? te = some j) :
    (binOp .neq tp (.pointer (some a)) (.pointer (some a))).run P w = .ok (.bool false) w := by
  have h : ∀ d : Nat, (Op.equalIn (d + 1) tp (.pointer (some a)) (.pointer (some a))).run P w = .ok true w := fun d => by
    simp [Op.equalIn, run_underlying hp, sizeOf, typeInfo, hte, run_sameAddr_same]
  simp only [binOp]
  simp [Op.equal, Op.maxDepth, h 9999]
theorem run_neq_ptr_other {P : Program} (w : World) {tp te : TypeId} {j : TypeInfo} {a b : Addr} {ca cb : Array Value} {ta tb : TypeId} (hp : P.underlying tp = some (.pointer te)) (hte : P.info? te = some j) (hsz : j.size ≠ 0)
    (hne : a ≠ b) (ha : w.heap[a.block]? = some (.cells ca ta (0, 0))) (hb : w.heap[b.block]? = some (.cells cb tb (0, 0))) :
    (binOp .neq tp (.pointer (some a)) (.pointer (some b))).run P w = .ok (.bool true) w := by
  have h : ∀ d : Nat, (Op.equalIn (d + 1) tp (.pointer (some a)) (.pointer (some b))).run P w = .ok false w := fun d => by
    simp [Op.equalIn, run_underlying hp, sizeOf, typeInfo, hte, hsz, run_sameAddr_other w hne ha hb]
  simp only [binOp]
  simp [Op.equal, Op.maxDepth, h 9999]
/-- An item: its key, its value, its node's block. -/
abbrev It := Value × Value × Nat
def bl (x : It) : Nat := x.2.2
def kb (x : It) : Value × Nat := (x.1, x.2.2)
def kv (x : It) : Value × Value := (x.1, x.2.1)

/-- A cache of at most so many, with the items L, the youngest ahead. -/
structure Cac (P : Program) (Tc Tn kT : TypeId) (c mb r most : Nat) (L : List It) (w : World) : Prop where
  blk : w.heap[c]? = some (.cells #[.int .i64 (most : Int), .map (some mb), Ptr r] Tc (0, 0))
  ring : ∃ f, Nodes Tn f (r :: L.map bl) w ∧ Cyc f r (L.map bl) ∧ ∀ x ∈ L, (f (bl x)).k = x.1 ∧ (f (bl x)).v = x.2.1
  map : PMap P kT mb (L.map kb) w
  full : L.length ≤ most + 1
  le : most ≤ 4096

/-- The blocks of a cache. -/
def cacS (c mb r : Nat) (L : List It) (k : Nat) : Prop := k = c ∨ k = mb ∨ k ∈ r :: L.map bl
/-- .. those that are written. -/
def cacW (mb r : Nat) (L : List It) (k : Nat) : Prop := k = mb ∨ k ∈ r :: L.map bl

section
variable {P : Program} {Tc Tn kT : TypeId} {c mb r most : Nat} {L : List It} {w w' : World}
theorem Cac.nc (h : Cac P Tc Tn kT c mb r most L w) (hT : Tc ≠ Tn) : ¬ cacW mb r L c := by
  rintro (e | hm)
  · obtain ⟨es, clock, hb⟩ := h.map.is
    rw [← e, h.blk] at hb; cases hb
  · obtain ⟨f, h1, -⟩ := h.ring
    have := h1 c hm
    rw [h.blk] at this
    simp only [Option.some.injEq, Obj.cells.injEq] at this
    exact hT this.2.1
theorem Cac.nm (h : Cac P Tc Tn kT c mb r most L w) : mb ∉ r :: L.map bl := by
  intro hm
  obtain ⟨es, clock, hb⟩ := h.map.is
  obtain ⟨f, h1, -⟩ := h.ring
  rw [h1 mb hm] at hb; cases hb
theorem Cac.keep {F : Nat → Prop} (h : Cac P Tc Tn kT c mb r most L w) (hf : Fr F w w') (hs : ∀ k, cacS c mb r L k → ¬ F k) : Cac P Tc Tn kT c mb r most L w' := by
  obtain ⟨f, h1, h2⟩ := h.ring
  exact ⟨hf.at h.blk (hs _ (.inl rfl)), ⟨f, h1.keep hf (fun b hb => hs b (.inr (.inr hb))), h2⟩, h.map.keep hf (hs _ (.inr (.inl rfl))), h.full, h.le⟩
theorem Cac.below (h : Cac P Tc Tn kT c mb r most L w) (hb : Below w.heap.size w w') : Cac P Tc Tn kT c mb r most L w' :=
  h.keep (F := fun _ => False) (Fr.of_below hb) (fun _ _ h => h)
theorem Cac.drew (h : Cac P Tc Tn kT c mb r most L w) : Cac P Tc Tn kT c mb r most L w.drew := h.keep (F := fun _ => False) (Fr.refl _ _).drew (fun _ _ h => h)
theorem Cac.cells (h : Cac P Tc Tn kT c mb r most L w) : w.cell? ⟨c, 0, none⟩ = some (.int .i64 (most : Int)) ∧ w.cell? ⟨c, 1, none⟩ = some (.map (some mb)) ∧ w.cell? ⟨c, 2, none⟩ = some (Ptr r) :=
  ⟨cell_at h.blk rfl, cell_at h.blk rfl, cell_at h.blk rfl⟩
theorem Cac.keys (h : Cac P Tc Tn kT c mb r most L w) : (L.map Prod.fst).Nodup := by
  have := h.map.keys
  rw [List.map_map] at this
  exact this
theorem Cac.lt (h : Cac P Tc Tn kT c mb r most L w) {k : Nat} (hk : cacS c mb r L k) : k < w.heap.size := by
  have hlt : ∀ {o : Obj}, w.heap[k]? = some o → k < w.heap.size := fun {o} ho => by
    rcases Nat.lt_or_ge k w.heap.size with h | h
    · exact h
    · simp [Array.getElem?_eq_none h] at ho
  rcases hk with rfl | rfl | hk
  · exact hlt h.blk
  · obtain ⟨es, clock, hb⟩ := h.map.is
    exact hlt hb
  · obtain ⟨f, h1, -⟩ := h.ring
    exact hlt (h1 k hk)
end

theorem below_alloc' (w : World) (o : Obj) : Fr (fun _ => False) w (w.alloc o) := (Fr.refl _ _).alloc _
theorem below_alloc'' {S : Nat → Prop} (w : World) (o : Obj) : Fr S w (w.alloc o) := (Fr.refl _ _).alloc _
/-- f with a node laid at n. -/
def lay (f : Nat → Node) (n : Nat) (k v : Value) : Nat → Node := fun i => if i = n then ⟨k, v, 0, 0⟩ else f i

section
variable {T : TypeId} {f f' : Nat → Node} {S : List Nat} {w w' : World} {n r x z : Nat} {k v a b : Value}
theorem nodes_new (h : Nodes T f S w) (hn : n ∉ S) (hb : w.heap[n]? = some (.cells #[k, v, a, b] T (0, 0))) : Nodes T (setE (setY (lay f n k v) n x) n z) (n :: S) ((w.setCell ⟨n, 2, none⟩ (Ptr x)).setCell ⟨n, 3, none⟩ (Ptr z)) := by
  intro i hi
  by_cases e : i = n
  · subst e
    rw [heap_setC (heap_setC hb _)]
    simp [cellsOf, setE, setY, lay]
  · have hi' : i ∈ S := by
      rcases List.mem_cons.1 hi with h | h
      · exact absurd h e
      · exact h
    rw [heap_setO (heap_setO (h i hi') _ e) _ e]
    simp [cellsOf, setE, setY, lay, e]

/-- Who stands ahead of all others, laid into the ring anew. -/
theorem lay_e (i : Nat) (hi : i ≠ n) : (lay f n k v i).e = (f i).e := by unfold lay; rw [if_neg hi]
theorem lay_y (i : Nat) (hi : i ≠ n) : (lay f n k v i).y = (f i).y := by unfold lay; rw [if_neg hi]
end

section
variable {P : Program} {Tc Tn kT : TypeId} {c mb r most n : Nat} {L l1 l2 : List It} {it : It} {w w' w2 : World} {f f' : Nat → Node} {k v : Value}
/-- The cache behind 'in': n (its key k, its value v) laid ahead of the items L, whose ring was f'. -/
theorem Cac.front (hb : w'.heap[c]? = some (.cells #[.int .i64 (most : Int), .map (some mb), Ptr r] Tc (0, 0))) (hc : Cyc f' r (L.map bl)) (hn : n ∉ r :: L.map bl) (hv : ∀ x ∈ L, (f' (bl x)).k = x.1 ∧ (f' (bl x)).v = x.2.1)
    (hw : Nodes Tn (inL (lay f' n k v) r n) (n :: r :: L.map bl) w') (hm : PMap P kT mb (((k, v, n) :: L).map kb) w') (hl : L.length ≤ most) (hle : most ≤ 4096) : Cac P Tc Tn kT c mb r most ((k, v, n) :: L) w' := by
  have hc' : Cyc (lay f' n k v) r (L.map bl) := hc.congr (fun i hi => lay_e i (fun e => hn (e ▸ hi))) (fun i hi => lay_y i (fun e => hn (e ▸ hi)))
  refine ⟨hb, ⟨_, hw.sub ?_, cyc_in hc' hn, ?_⟩, hm, by simpa using hl, hle⟩
  · intro b hb
    simp only [List.map_cons, List.mem_cons] at hb ⊢
    rcases hb with h | h | h
    · exact .inr (.inl h)
    · exact .inl h
    · exact .inr (.inr h)
  · intro y hy
    rw [inL_k, inL_v]
    rcases List.mem_cons.1 hy with rfl | hy
    · simp [lay, bl]
    · have : bl y ≠ n := fun e => hn (List.mem_cons_of_mem _ (e ▸ List.mem_map.2 ⟨y, hy, rfl⟩))
      unfold lay
      rw [if_neg this]
      exact hv y hy
/-- A ring from which one item is taken out. -/
theorem Cac.taken (h2 : Cyc f r ((l1 ++ it :: l2).map bl)) (h3 : ∀ x ∈ l1 ++ it :: l2, (f (bl x)).k = x.1 ∧ (f (bl x)).v = x.2.1) :
    Cyc (outL f (bl it)) r ((l1 ++ l2).map bl) ∧ bl it ∉ r :: (l1 ++ l2).map bl ∧ (∀ x ∈ l1 ++ l2, (outL f (bl it) (bl x)).k = x.1 ∧ (outL f (bl it) (bl x)).v = x.2.1) ∧ (outL f (bl it) r).e ∈ r :: (l1 ++ l2).map bl ∧
      (f (bl it)).y ∈ r :: (l1 ++ it :: l2).map bl ∧ (f (bl it)).e ∈ r :: (l1 ++ it :: l2).map bl ∧ (f (bl it)).y ≠ bl it ∧ (f (bl it)).e ≠ bl it := by
  rw [List.map_append, List.map_cons] at h2
  have hc := cyc_out h2
  rw [← List.map_append] at hc
  have nd := h2.1
  have hn : bl it ∉ r :: (l1 ++ l2).map bl := by
    intro hm
    simp only [List.nodup_cons, List.nodup_append, List.mem_append, List.mem_cons, not_or] at nd
    rw [List.map_append, List.mem_cons, List.mem_append] at hm
    rcases hm with e | hm | hm
    · exact nd.1.2.1 e.symm
    · exact nd.2.2.2 _ hm (bl it) (.inl rfl) rfl
    · exact nd.2.2.1.1 hm
  refine ⟨hc, hn, ?_, ?_, ?_, ?_, ?_, ?_⟩
  · intro x hx
    rw [outL_k, outL_v]
    refine h3 x ?_
    rcases List.mem_append.1 hx with h | h
    · exact List.mem_append_left _ h
    · exact List.mem_append_right _ (List.mem_cons_of_mem _ h)
  · exact hc.mem_first
  · rw [List.map_append, List.map_cons]; exact h2.mem_y
  · rw [List.map_append, List.map_cons]; exact h2.mem_e
  · obtain ⟨l1', p, s, l2', g1, g2, g3, g4, g5, g6, -⟩ := h2.around
    rw [g3]
    intro e
    have : p ∈ r :: l1.map bl := by rw [g1]; simp
    rw [e] at this
    apply hn
    rw [List.map_append]
    rcases List.mem_cons.1 this with h | h
    · simp [h]
    · exact List.mem_cons_of_mem _ (List.mem_append_left _ h)
  · obtain ⟨l1', p, s, l2', g1, g2, g3, g4, g5, g6, -⟩ := h2.around
    rw [g4]
    intro e
    have : s ∈ l2.map bl ++ [r] := by rw [g2]; simp
    rw [e] at this
    apply hn
    rw [List.map_append]
    rcases List.mem_append.1 this with h | h
    · exact List.mem_cons_of_mem _ (List.mem_append_right _ h)
    · rw [List.mem_singleton.1 h]; simp
theorem Nodes.setO {T : TypeId} {f : Nat → Node} {S : List Nat} {w : World} {b j : Nat} (h : Nodes T f S w) (hb : b ∉ S) (v : Value) : Nodes T f S (w.setCell ⟨b, j, none⟩ v) := fun i hi => heap_setO (h i hi) v (fun e => hb (e ▸ hi))
end

/-- All that is known of a cache ahead of taking the item it out. -/
structure Takes (P : Program) (Tc Tn kT : TypeId) (c mb r most : Nat) (l1 l2 : List It) (it : It) (f : Nat → Node) (w : World) : Prop where
  all : Nodes Tn f (r :: (l1 ++ it :: l2).map bl) w
  cyc : Cyc (outL f (bl it)) r ((l1 ++ l2).map bl)
  out : bl it ∉ r :: (l1 ++ l2).map bl
  vals : ∀ x ∈ l1 ++ l2, (outL f (bl it) (bl x)).k = x.1 ∧ (outL f (bl it) (bl x)).v = x.2.1
  first : (outL f (bl it) r).e ∈ r :: (l1 ++ l2).map bl
  hy : (f (bl it)).y ∈ r :: (l1 ++ it :: l2).map bl
  he : (f (bl it)).e ∈ r :: (l1 ++ it :: l2).map bl
  ny : (f (bl it)).y ≠ bl it
  ne : (f (bl it)).e ≠ bl it
  mem : bl it ∈ r :: (l1 ++ it :: l2).map bl
  sub : ∀ i ∈ r :: (l1 ++ l2).map bl, i ∈ r :: (l1 ++ it :: l2).map bl
  ring : Cyc f r ((l1 ++ it :: l2).map bl)
  key : (f (bl it)).k = it.1
  val : (f (bl it)).v = it.2.1

section
variable {P : Program} {Tc Tn kT : TypeId} {c mb r most : Nat} {l1 l2 : List It} {it : It} {w w' : World}
theorem Cac.takes (h : Cac P Tc Tn kT c mb r most (l1 ++ it :: l2) w) : ∃ f, Takes P Tc Tn kT c mb r most l1 l2 it f w := by
  obtain ⟨f, h1, h2, h3⟩ := h.ring
  obtain ⟨a1, a2, a3, a4, a5, a6, a7, a8⟩ := Cac.taken h2 h3
  have hm : it ∈ l1 ++ it :: l2 := by simp
  refine ⟨f, h1, a1, a2, a3, a4, a5, a6, a7, a8, List.mem_cons_of_mem _ (List.mem_map.2 ⟨it, hm, rfl⟩), ?_, h2, (h3 it hm).1, (h3 it hm).2⟩
  intro i hi
  rcases List.mem_cons.1 hi with rfl | hi
  · simp
  · obtain ⟨x, hx, rfl⟩ := List.mem_map.1 hi
    refine List.mem_cons_of_mem _ (List.mem_map.2 ⟨x, ?_, rfl⟩)
    rcases List.mem_append.1 hx with h | h
    · exact List.mem_append_left _ h
    · exact List.mem_append_right _ (List.mem_cons_of_mem _ h)
/-- The cache's own block while nodes and the map are written. -/
theorem Cac.stands (h : Cac P Tc Tn kT c mb r most (l1 ++ it :: l2) w) (hT : Tc ≠ Tn) (F : Fr (fun k => k ∈ r :: (l1 ++ it :: l2).map bl) w w') : w'.heap[c]? = some (.cells #[.int .i64 (most : Int), .map (some mb), Ptr r] Tc (0, 0)) :=
  F.at h.blk (fun hm => h.nc hT (.inr hm))
theorem Cac.perm_map (h : Cac P Tc Tn kT c mb r most (l1 ++ it :: l2) w) (F : Fr (fun k => k ∈ r :: (l1 ++ it :: l2).map bl) w w') (v : Value) : PMap P kT mb (((it.1, v, bl it) :: (l1 ++ l2)).map kb) w' := by
  refine (h.map.keep F h.nm).perm ?_
  rw [List.map_append, List.map_cons, List.map_cons, List.map_append]
  exact List.perm_middle
theorem Takes.last {f : Nat → Node} (t : Takes P Tc Tn kT c mb r most l1 [] it f w) : w.cell? ⟨r, 2, none⟩ = some (Ptr (bl it)) := by
  obtain ⟨-, -, c2, -⟩ := t.all.open List.mem_cons_self
  have := t.ring
  rw [List.map_append, List.map_cons, List.map_nil] at this
  rw [c2, this.last]
/-- What is left when the last one has been taken out and its key struck. -/
theorem Takes.rest {f : Nat → Node} {w2 : World} (t : Takes P Tc Tn kT c mb r most l1 [] it f w) (h : Cac P Tc Tn kT c mb r most (l1 ++ [it]) w) (hT : Tc ≠ Tn) (F : Fr (fun k => k ∈ r :: (l1 ++ [it]).map bl) w w') (hN : Nodes Tn (outL f (bl it)) (r :: (l1 ++ [it]).map bl) w') (m : PMap P kT mb (l1.map kb) w2) (F2 : Fr (fun k => k = mb) w' w2) : Cac P Tc Tn kT c mb r most l1 w2 := by
  have hcm : c ≠ mb := fun e => h.nc hT (.inl e)
  have hc := t.cyc
  have hv := t.vals
  rw [List.append_nil] at hc hv
  refine ⟨F2.at (h.stands hT F) hcm, ⟨_, (hN.sub ?_).keep F2 ?_, hc, hv⟩, m, by have := h.full; simp at this; omega, h.le⟩
  · intro i hi
    have := t.sub i
    rw [List.append_nil] at this
    exact this hi
  · intro b hb e
    have := t.sub b
    rw [List.append_nil] at this
    exact h.nm (e ▸ this hb)
theorem Fr.old {S : Nat → Prop} (h : Fr (fun k => S k ∨ w.heap.size ≤ k) w w') : Fr S w w' := ⟨h.os, h.tape, h.output, h.size, fun k hk hn => h.block k hk (by rintro (h | h); exact hn h; omega)⟩
theorem PMap.key {L : List (Value × Nat)} {x : Value × Nat} (h : PMap P kT mb L w) (hx : x ∈ L) : ∃ l, keyOf P kT x.1 = some l := by
  obtain ⟨D, -, h2⟩ := h
  obtain ⟨l, hl, -⟩ := h2.1 x hx
  exact ⟨l, hl⟩
theorem Fr.sets {S S' : List Nat} (h : Fr (fun k => k ∈ S) w w') (hs : ∀ k ∈ S, k ∈ S') : Fr (fun k => k ∈ S') w w' := h.mono hs
end

theorem three_new (w : World) (a b c : Obj) : (((w.alloc a).alloc b).alloc c).heap[w.heap.size]? = some a ∧ (((w.alloc a).alloc b).alloc c).heap[w.heap.size + 1]? = some b ∧ (((w.alloc a).alloc b).alloc c).heap[w.heap.size + 1 + 1]? = some c := by
  refine ⟨?_, ?_, ?_⟩
  · rw [Below.heap_alloc _ _ _ (by simp; omega), Below.heap_alloc _ _ _ (by simp)]
    exact heap_alloc_new w a
  · rw [Below.heap_alloc _ _ _ (by simp)]
    simpa using heap_alloc_new (w.alloc a) b
  · simpa using heap_alloc_new ((w.alloc a).alloc b) c
/-- A fresh cache. -/
theorem cac_new {P : Program} {Tc Tn kT : TypeId} {w : World} {k v : Value} {most : Nat} (hle : most ≤ 4096) :
    Cac P Tc Tn kT (w.heap.size + 1 + 1) (w.heap.size + 1) w.heap.size most [] (((w.alloc (.cells #[k, v, Ptr w.heap.size, Ptr w.heap.size] Tn (0, 0))).alloc (.map #[] 0)).alloc (.cells #[.int .i64 (most : Int), .map (some (w.heap.size + 1)), Ptr w.heap.size] Tc (0, 0))) := by
  obtain ⟨h1, h2, h3⟩ := three_new w (.cells #[k, v, Ptr w.heap.size, Ptr w.heap.size] Tn (0, 0)) (.map #[] 0) (.cells #[.int .i64 (most : Int), .map (some (w.heap.size + 1)), Ptr w.heap.size] Tc (0, 0))
  refine ⟨h3, ⟨fun _ => ⟨k, v, w.heap.size, w.heap.size⟩, ?_, Cyc.empty rfl rfl, by simp⟩, ?_, by simp, hle⟩
  · intro b hb
    simp only [List.map_nil, List.mem_cons, List.not_mem_nil, or_false] at hb
    subst hb
    exact h1
  · have := PMap.made (w.alloc (.cells #[k, v, Ptr w.heap.size, Ptr w.heap.size] Tn (0, 0))) P kT
    rw [World.size_alloc] at this
    exact this.keep (F := fun _ => False) ((Fr.refl _ _).alloc _) (fun h => h)
end Go.Proofs.Ytkbcfagggjfhhaa
