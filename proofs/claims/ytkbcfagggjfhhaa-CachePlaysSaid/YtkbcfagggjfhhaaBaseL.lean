/- A frame relation that names the blocks that may have turned; slices that read as lists; append onto a row of the call's own of whatever slice reads. Conditions: none. -/
import Derived.WalkKit
import Derived.Deep.Draws
import Derived.Lib.Hide
import Derived.ArgAppend
namespace Go.Proofs.Ytkbcfagggjfhhaa
set_option maxRecDepth 100000
open Go.RowKit

/-- Of the blocks that were there those beyond S have not turned. -/
structure Fr (S : Nat → Prop) (w w' : World) : Prop where
  os : w'.os = w.os
  tape : w'.tape = w.tape
  output : w'.output = w.output
  size : w.heap.size ≤ w'.heap.size
  block : ∀ k, k < w.heap.size → ¬ S k → w'.heap[k]? = w.heap[k]?

section
variable {S : Nat → Prop} {w w' w'' : World}
theorem Fr.refl (S : Nat → Prop) (w : World) : Fr S w w := ⟨rfl, rfl, rfl, Nat.le_refl _, fun _ _ _ => rfl⟩
theorem Fr.trans (h : Fr S w w') (k : Fr S w' w'') : Fr S w w'' :=
  ⟨k.os.trans h.os, k.tape.trans h.tape, k.output.trans h.output, Nat.le_trans h.size k.size, fun i hi hs => (k.block i (Nat.lt_of_lt_of_le hi h.size) hs).trans (h.block i hi hs)⟩
theorem Fr.mono {S' : Nat → Prop} (h : Fr S w w') (hs : ∀ k, S k → S' k) : Fr S' w w' :=
  ⟨h.os, h.tape, h.output, h.size, fun k hk hn => h.block k hk (fun hS => hn (hs k hS))⟩
theorem Fr.drew (h : Fr S w w') : Fr S w w'.drew := ⟨h.os, h.tape, h.output, h.size, h.block⟩
theorem Fr.alloc (h : Fr S w w') (o : Obj) : Fr S w (w'.alloc o) :=
  h.trans ⟨rfl, rfl, rfl, by simp, fun k hk _ => Below.heap_alloc _ _ _ hk⟩
theorem Fr.setCell (h : Fr S w w') {p : Addr} (hp : S p.block) (u : Value) : Fr S w (w'.setCell p u) :=
  h.trans ⟨rfl, rfl, rfl, by simp [World.setCell], fun k _ hn => Below.heap_setCell _ _ _ _ (fun e => hn (e ▸ hp))⟩
theorem Fr.of_below (h : Below w.heap.size w w') : Fr S w w' := ⟨h.os, h.tape, h.output, h.size, fun k hk _ => h.block k hk⟩
theorem Fr.below {B : Nat} (h : Fr S w w') (hB : B ≤ w.heap.size) (hs : ∀ k, k < B → ¬ S k) : Below B w w' :=
  ⟨h.os, h.tape, h.output, h.size, fun k hk => h.block k (by omega) (hs k hk)⟩
theorem Fr.at (h : Fr S w w') {k : Nat} {o : Obj} (hk : w.heap[k]? = some o) (hs : ¬ S k) : w'.heap[k]? = some o := by
  have hlt : k < w.heap.size := by
    rcases Nat.lt_or_ge k w.heap.size with h | h
    · exact h
    · simp [Array.getElem?_eq_none h] at hk
  rw [h.block k hlt hs, hk]
theorem Fr.at_cell (h : Fr S w w') {p : Addr} {v : Value} (hc : w.cell? p = some v) (hs : ¬ S p.block) : w'.cell? p = some v :=
  (World.cell?_of_block (h.block p.block (World.block_lt_of_cell? w p hc) hs)).trans hc
theorem Fr.of_drewN (w : World) (n : Nat) : Fr (fun _ => False) w (w.drewN n) := ⟨rfl, rfl, rfl, Nat.le_refl _, fun _ _ _ => rfl⟩
theorem below_drewN {B : Nat} {a w : World} (h : Below B a w) (n : Nat) : Below B a (w.drewN n) := ⟨h.os, h.tape, h.output, h.size, h.block⟩
theorem Fr.of_drew (h : Fr S w.drew w') : Fr S w w' := ⟨h.os, h.tape, h.output, h.size, h.block⟩
end

theorem ownsRow_fr {S : Nat → Prop} {w w' : World} {base : Nat} {e : TypeId} {size : Nat} {v : Value} {n : Nat} {xs : List Value} (h : w.ownsRow base e size v n xs) (hf : Fr S w w') (hs : ∀ k, base ≤ k → ¬ S k) : w'.ownsRow base e size v n xs := by
  refine ⟨h.1, ?_⟩
  rcases h.2 with h | ⟨g, cap, cur, h1, h2, h3, h4⟩
  · exact .inl h
  · exact .inr ⟨g, cap, cur, h1, h2, hf.at h3 (hs g h2), h4⟩
theorem Fr.grown {S : Nat → Prop} {w w' w'' : World} {row : Option Nat} (h : Fr S w w') (hg : w'.grownBy w'' row) (hr : ∀ k, row = some k → w.heap.size ≤ k) : Fr S w w'' :=
  ⟨hg.os.trans h.os, hg.tape.trans h.tape, hg.output.trans h.output, Nat.le_trans h.size hg.size, fun k hk hn => (hg.block k (Nat.lt_of_lt_of_le hk h.size) (fun e => by have := hr k e.symm; omega)).trans (h.block k hk hn)⟩

/-- A slice of elements of one cell that reads as xs; the block of its cells is such as N asks. -/
def Rd (N : Nat → Prop) (w : World) (v : Value) (xs : List Value) : Prop :=
  ∃ a c, v = .slice a xs.length c ∧ xs.length ≤ c ∧ c ≤ maxLen ∧ (a = none → c = 0) ∧ ∀ j u, xs[j]? = some u → ∃ g off, a = some ⟨g, off, none⟩ ∧ N g ∧ w.cell? ⟨g, off + j, none⟩ = some u

section
variable {N : Nat → Prop} {w w' : World} {v x : Value} {xs ys : List Value}
theorem Rd.nil (N : Nat → Prop) (w : World) : Rd N w (.slice none 0 0) [] := ⟨none, 0, rfl, Nat.le_refl _, by decide, fun _ => rfl, fun j u h => by simp at h⟩
theorem Rd.keep {S : Nat → Prop} (h : Rd N w v xs) (hf : Fr S w w') (hs : ∀ g, N g → ¬ S g) : Rd N w' v xs := by
  obtain ⟨a, c, h1, h2, h3, h4, h5⟩ := h
  refine ⟨a, c, h1, h2, h3, h4, fun j u hj => ?_⟩
  obtain ⟨g, off, e1, e2, e3⟩ := h5 j u hj
  exact ⟨g, off, e1, e2, hf.at_cell e3 (hs g e2)⟩
theorem Rd.below (h : Rd N w v xs) (hb : Below w.heap.size w w') : Rd N w' v xs := h.keep (S := fun _ => False) (Fr.of_below hb) (fun _ _ h => h)
theorem Rd.mono {N' : Nat → Prop} (h : Rd N w v xs) (hn : ∀ g, g < w.heap.size → N g → N' g) : Rd N' w v xs := by
  obtain ⟨a, c, h1, h2, h3, h4, h5⟩ := h
  refine ⟨a, c, h1, h2, h3, h4, fun j u hj => ?_⟩
  obtain ⟨g, off, e1, e2, e3⟩ := h5 j u hj
  exact ⟨g, off, e1, hn g (World.block_lt_of_cell? w _ e3) e2, e3⟩
theorem Rd.of_own {base : Nat} {e : TypeId} {n : Nat} (h : w.ownsRow base e 1 v n xs) (hN : ∀ g, base ≤ g → N g) : Rd N w v xs := by
  have hl : xs.length = n := by simpa using h.1
  rcases h.2 with ⟨rfl, rfl⟩ | ⟨g, cap, cur, rfl, hb, hg, hn, hc, hs, ht⟩
  · obtain rfl : xs = [] := List.eq_nil_of_length_eq_zero hl
    exact Rd.nil N w
  · refine ⟨some ⟨g, 0, none⟩, cap, by rw [hl], by omega, hc, (fun h => by cases h), fun j u hj => ⟨g, 0, rfl, hN g hb, ?_⟩⟩
    have hjl : j < xs.length := (List.getElem?_eq_some_iff.1 hj).1
    rw [Nat.zero_add, h.cellAt j (by omega), hj]
/-- The slice as a value, its cells at a glance. -/
theorem Rd.view (h : Rd N w v xs) : ∃ a c, v = .slice a xs.length c ∧ xs.length ≤ c ∧ c ≤ maxLen ∧ (a = none → c = 0) ∧ ∀ j, j < xs.length → ∃ g off, a = some ⟨g, off, none⟩ ∧ N g ∧ g < w.heap.size ∧ w.cell? ⟨g, off + j, none⟩ = some (xs[j]?.getD undef) := by
  obtain ⟨a, c, h1, h2, h3, h4, h5⟩ := h
  refine ⟨a, c, h1, h2, h3, h4, fun j hj => ?_⟩
  obtain ⟨g, off, e1, e2, e3⟩ := h5 j _ (List.getElem?_eq_getElem hj)
  exact ⟨g, off, e1, e2, World.block_lt_of_cell? w _ e3, by rw [e3, List.getElem?_eq_getElem hj]; rfl⟩

/-- 'append' of whatever slice onto a row of the call's own. -/
theorem run_append_rd {P : Program} (base : Nat) (t ty e : TypeId) (i : TypeInfo) (z : Value) (bytes : Nat) (ht : P.underlying t = some (.slice e)) (hi : P.info? e = some i) (hz : i.zero = some z)
    (hsize : i.size = 1) (hby : i.bytes = bytes) (hzs : z.cells.size = 1) {n : Nat} (hown : w.ownsRow base e 1 v n xs) (hr : Rd N w x ys) (h1 : ∀ u ∈ ys, u.oneCell' = true)
    (h63 : n + ys.length ≤ maxLen) (hbytes : (n + ys.length) * bytes ≤ 140737488355328) (hbase : base ≤ w.heap.size) :
    ∃ v' w', (Builtin.append_ #[t, t] ty #[v, x]).run P w = .ok v' w' ∧ w'.ownsRow base e 1 v' (n + ys.length) (xs ++ ys) ∧ w.grownBy w' v.ownBlock := by
  obtain ⟨a, c, rfl, h2, h3, h4, h5⟩ := hr
  cases a with
  | none =>
    have hc := h4 rfl
    subst hc
    have hy : ys = [] := List.eq_nil_of_length_eq_zero (by omega)
    subst hy
    exact ⟨v, w, run_append_owned_none (P := P) w base t ty e i 1 ht hi v n xs hown, by simpa using hown, World.grownBy.refl _ _⟩
  | some ad =>
    obtain ⟨v', w', hrun, r1, r2, _⟩ := run_append_own (P := P) w base t ty e i z 1 bytes ht hi hz hsize hby hzs (by decide) v n xs hown ad ys.length c ys (by simp) (fun j u hj => by
      obtain ⟨g, off, e1, _, e3⟩ := h5 j u hj
      simp only [Option.some.injEq] at e1
      subst e1
      rw [Go.WideShapes.add_plain]; exact e3) h1 h63 hbytes hbase
    exact ⟨v', w', hrun, r1, r2⟩

theorem wpList_append_rd {P : Program} {ops : Array Oper} {rest : List Oper} {o : Oper} {a : Act} {Q : Exit → Act → World → Prop} (hg : o.guard = none) (s y : Operand) (t : TypeId)
    (hop : o.op = Op.call { callee := Callee.builtin Builtin.append, args := #[s, y], argTypes := #[t, t] }) (base : Nat) (e : TypeId) (i : TypeInfo) (z : Value) (bytes : Nat) (ht : P.underlying t = some (.slice e)) (hi : P.info? e = some i) (hz : i.zero = some z)
    (hsize : i.size = 1) (hby : i.bytes = bytes) (hzs : z.cells.size = 1) {n : Nat} (hs : a.eval s = v) (hx : a.eval y = x) (hown : w.ownsRow base e 1 v n xs) (hr : Rd N w x ys) (h1 : ∀ u ∈ ys, u.oneCell' = true)
    (h63 : n + ys.length ≤ maxLen) (hbytes : (n + ys.length) * bytes ≤ 140737488355328) (hbase : base ≤ w.heap.size)
    (hK : ∀ v' w', w'.ownsRow base e 1 v' (n + ys.length) (xs ++ ys) → w.grownBy w' v.ownBlock → wpList P ops Q rest (a.put o.dst v') w') : wpList P ops Q (o :: rest) a w := by
  refine wpList_plain hg fun K hK' => ?_
  obtain ⟨v', w', hrun, r1, r2⟩ := run_append_rd (P := P) base t o.type e i z bytes ht hi hz hsize hby hzs hown hr h1 h63 hbytes hbase
  unfold Oper.wp
  simp [execOp, hop, resolve, invoke, builtin, hs, hx, hrun, Result.andThen]
  exact hK' _ _ (hK v' w' r1 r2)

theorem step_append_rd {P : Program} {ops : Array Oper} {o : Oper} {a : Act} {K : Act → World → Prop} {Q : Exit → Act → World → Prop} {E : Prop} (hg : o.guard = none) (s y : Operand) (t : TypeId)
    (hop : o.op = Op.call { callee := Callee.builtin Builtin.append, args := #[s, y], argTypes := #[t, t] }) (base : Nat) (e : TypeId) (i : TypeInfo) (z : Value) (bytes : Nat) (ht : P.underlying t = some (.slice e)) (hi : P.info? e = some i) (hz : i.zero = some z)
    (hsize : i.size = 1) (hby : i.bytes = bytes) (hzs : z.cells.size = 1) {n : Nat} (hs : a.eval s = v) (hx : a.eval y = x) (hown : w.ownsRow base e 1 v n xs) (hr : Rd N w x ys) (h1 : ∀ u ∈ ys, u.oneCell' = true)
    (h63 : n + ys.length ≤ maxLen) (hbytes : (n + ys.length) * bytes ≤ 140737488355328) (hbase : base ≤ w.heap.size)
    (hK : ∀ v' w', w'.ownsRow base e 1 v' (n + ys.length) (xs ++ ys) → w.grownBy w' v.ownBlock → K (a.put o.dst v') w') : if Region.wanted o (yielded ops a.tmps) = true then Oper.wp P o a w K Q else E := by
  have hw : Region.wanted o (yielded ops a.tmps) = true := by simp [Region.wanted, hg]
  rw [if_pos hw]
  obtain ⟨v', w', hrun, r1, r2⟩ := run_append_rd (P := P) base t o.type e i z bytes ht hi hz hsize hby hzs hown hr h1 h63 hbytes hbase
  unfold Oper.wp
  simp [execOp, hop, resolve, invoke, builtin, hs, hx, hrun, Result.andThen]
  exact hK v' w' r1 r2
end

/-! ### blocks of a world that is written out -/
theorem heap_alloc_if (W : World) (o : Obj) (k : Nat) : (W.alloc o).heap[k]? = if k = W.heap.size then some o else W.heap[k]? := by
  show (W.heap.push o)[k]? = _
  rw [Array.getElem?_push]
theorem heap_drew' (W : World) (k : Nat) : W.drew.heap[k]? = W.heap[k]? := rfl
theorem grown_heap {W w1 : World} {row : Option Nat} {k : Nat} {o : Obj} (hg : W.grownBy w1 row) (h : W.heap[k]? = some o) (hne : row ≠ some k) : w1.heap[k]? = some o := by
  have hlt : k < W.heap.size := by
    rcases Nat.lt_or_ge k W.heap.size with h' | h'
    · exact h'
    · simp [Array.getElem?_eq_none h'] at h
  rw [hg.block k hlt (fun e => hne e.symm), h]
theorem own_zero {W : World} {B base : Nat} {E : TypeId} (h : W.heap[B]? = some (.cells #[] E (0, 0))) (hb : base ≤ B) : W.ownsRow base E 1 (.slice (some ⟨B, 0, none⟩) 0 0) 0 [] :=
  ⟨rfl, .inr ⟨B, 0, #[], rfl, hb, h, Nat.le_refl _, by decide, rfl, rfl⟩⟩
theorem rd_one {N : Nat → Prop} {W : World} {B : Nat} {E : TypeId} {u : Value} {fz : Nat × Nat} (h : W.heap[B]? = some (.cells #[u] E fz)) (hN : N B) : Rd N W (.slice (some ⟨B, 0, none⟩) 1 1) [u] :=
  ⟨some ⟨B, 0, none⟩, 1, rfl, Nat.le_refl _, by decide, (fun h => by cases h), fun j u' hj => ⟨B, 0, rfl, hN, by
    cases j with
    | zero => simp at hj; subst hj; simp [World.cell?, h]
    | succ j => simp at hj⟩⟩
theorem cell_at {w : World} {b j : Nat} {c : Array Value} {T : TypeId} {fz : Nat × Nat} (h : w.heap[b]? = some (.cells c T fz)) {v : Value} (hj : c[j]? = some v) : w.cell? ⟨b, j, none⟩ = some v := by
  simp [World.cell?, h, hj]
theorem free_at {w : World} {b j : Nat} {c : Array Value} {T : TypeId} (h : w.heap[b]? = some (.cells c T (0, 0))) : w.frozen? ⟨b, j, none⟩ = false := by
  simp [World.frozen?, h]
theorem heap_setC {w : World} {b j : Nat} {c : Array Value} {T : TypeId} {fz : Nat × Nat} (h : w.heap[b]? = some (.cells c T fz)) (v : Value) :
    (w.setCell ⟨b, j, none⟩ v).heap[b]? = some (.cells (c.setIfInBounds j v) T fz) := by
  simp [World.setCell, Array.getElem?_modify, h]
theorem heap_setO {w : World} {b j k : Nat} {o : Obj} (h : w.heap[k]? = some o) (v : Value) (hne : k ≠ b) : (w.setCell ⟨b, j, none⟩ v).heap[k]? = some o := by
  rw [Below.heap_setCell _ _ _ _ hne, h]
theorem Fr.one (w : World) (b j : Nat) (v : Value) : Fr (fun k => k = b) w (w.setCell ⟨b, j, none⟩ v) := (Fr.refl (fun k => k = b) w).setCell (p := ⟨b, j, none⟩) rfl v
end Go.Proofs.Ytkbcfagggjfhhaa
