/- The document's list of items: slices of a text and a number each; its Find and Front. Conditions: at most 5000 items. -/
import Derived.Test.YtkbcfagggjfhhaaCacAlive
import Derived.Test.YtkbcfagggjfhhaaCommon
import Derived.Deep.QuietTactic
import Derived.BigQuiet
namespace Go.Proofs.Ytkbcfagggjfhhaa
set_option maxRecDepth 100000
open Go.RowKit

abbrev Itm := ByteArray × Int
/-- The cells of items, one behind the other. -/
def flat : List Itm → List Value
  | [] => []
  | x :: l => .string x.1 :: .int .i64 x.2 :: flat l
theorem flat_len : ∀ l : List Itm, (flat l).length = 2 * l.length
  | [] => rfl
  | x :: l => by simp [flat, flat_len l]; omega
theorem flat_append : ∀ l m : List Itm, flat (l ++ m) = flat l ++ flat m
  | [], m => rfl
  | x :: l, m => by simp [flat, flat_append l m]
theorem flat_at : ∀ (l : List Itm) (j : Nat), (flat l)[j * 2]? = l[j]?.map (fun x => .string x.1) ∧ (flat l)[j * 2 + 1]? = l[j]?.map (fun x => .int .i64 x.2)
  | [], j => by simp [flat]
  | x :: l, 0 => by simp [flat]
  | x :: l, j + 1 => by
    have := flat_at l j
    rw [show (j + 1) * 2 = j * 2 + 1 + 1 by omega]
    simp only [flat, List.getElem?_cons_succ]
    exact this

/-- A slice that reads as these items; its block is such as N asks. -/
def Rd2 (N : Nat → Prop) (w : World) (v : Value) (xs : List Itm) : Prop :=
  ∃ a c, v = .slice a xs.length c ∧ xs.length ≤ c ∧ c ≤ maxLen ∧ (a = none → c = 0) ∧ ∀ j x, xs[j]? = some x → ∃ g off, a = some ⟨g, off, none⟩ ∧ N g ∧ w.cell? ⟨g, off + j * 2, none⟩ = some (.string x.1) ∧ w.cell? ⟨g, off + j * 2 + 1, none⟩ = some (.int .i64 x.2)

section
variable {N : Nat → Prop} {w w' : World} {v : Value} {xs : List Itm}
theorem Rd2.nil (N : Nat → Prop) (w : World) : Rd2 N w (.slice none 0 0) [] := ⟨none, 0, rfl, Nat.le_refl _, by decide, fun _ => rfl, fun j u h => by simp at h⟩
theorem Rd2.keep {S : Nat → Prop} (h : Rd2 N w v xs) (hf : Fr S w w') (hs : ∀ g, N g → ¬ S g) : Rd2 N w' v xs := by
  obtain ⟨a, c, h1, h2, h3, h4, h5⟩ := h
  refine ⟨a, c, h1, h2, h3, h4, fun j u hj => ?_⟩
  obtain ⟨g, off, e1, e2, e3, e4⟩ := h5 j u hj
  exact ⟨g, off, e1, e2, hf.at_cell e3 (hs g e2), hf.at_cell e4 (hs g e2)⟩
theorem Rd2.below (h : Rd2 N w v xs) (hb : Below w.heap.size w w') : Rd2 N w' v xs := h.keep (S := fun _ => False) (Fr.of_below hb) (fun _ _ h => h)
theorem Rd2.mono {N' : Nat → Prop} (h : Rd2 N w v xs) (hn : ∀ g, g < w.heap.size → N g → N' g) : Rd2 N' w v xs := by
  obtain ⟨a, c, h1, h2, h3, h4, h5⟩ := h
  refine ⟨a, c, h1, h2, h3, h4, fun j u hj => ?_⟩
  obtain ⟨g, off, e1, e2, e3, e4⟩ := h5 j u hj
  exact ⟨g, off, e1, hn g (World.block_lt_of_cell? w _ e3) e2, e3, e4⟩
theorem Rd2.of_own {base : Nat} {e : TypeId} {n : Nat} (h : w.ownsRow base e 2 v n (flat xs)) (hN : ∀ g, base ≤ g → N g) : Rd2 N w v xs := by
  have hl : xs.length = n := by have := h.1; rw [flat_len] at this; omega
  rcases h.2 with ⟨rfl, rfl⟩ | ⟨g, cap, cur, rfl, hb, hg, hn, hc, hs, ht⟩
  · obtain rfl : xs = [] := List.eq_nil_of_length_eq_zero hl
    exact Rd2.nil N w
  · refine ⟨some ⟨g, 0, none⟩, cap, by rw [hl], by omega, hc, (fun h => by cases h), fun j u hj => ⟨g, 0, rfl, hN g hb, ?_⟩⟩
    have hjl : j < xs.length := (List.getElem?_eq_some_iff.1 hj).1
    obtain ⟨f1, f2⟩ := flat_at xs j
    rw [hj] at f1 f2
    rw [Nat.zero_add, h.cellAt (j * 2) (by omega), h.cellAt (j * 2 + 1) (by omega), f1, f2]
    exact ⟨rfl, rfl⟩
theorem Rd2.view (h : Rd2 N w v xs) : ∃ a c, v = .slice a xs.length c ∧ xs.length ≤ c ∧ c ≤ maxLen ∧ ∀ j x, xs[j]? = some x → ∃ g off, a = some ⟨g, off, none⟩ ∧ N g ∧ g < w.heap.size ∧ w.cell? ⟨g, off + j * 2, none⟩ = some (.string x.1) ∧ w.cell? ⟨g, off + j * 2 + 1, none⟩ = some (.int .i64 x.2) := by
  obtain ⟨a, c, h1, h2, h3, h4, h5⟩ := h
  refine ⟨a, c, h1, h2, h3, fun j u hj => ?_⟩
  obtain ⟨g, off, e1, e2, e3, e4⟩ := h5 j u hj
  exact ⟨g, off, e1, e2, World.block_lt_of_cell? w _ e3, e3, e4⟩
theorem Rd2.at {a : Option Addr} {n c j : Nat} {x : Itm} (h : Rd2 N w (.slice a n c) xs) (hj : xs[j]? = some x) : ∃ g off, a = some ⟨g, off, none⟩ ∧ n = xs.length ∧ N g ∧ g < w.heap.size ∧ w.cell? ⟨g, off + j * 2, none⟩ = some (.string x.1) ∧ w.cell? ⟨g, off + j * 2 + 1, none⟩ = some (.int .i64 x.2) := by
  obtain ⟨a', c', h1, h2, h3, h4, h5⟩ := h
  injection h1 with e1 e2 e3
  subst e1
  obtain ⟨g, off, e4, e5, e6, e7⟩ := h5 j x hj
  exact ⟨g, off, e4, e2, e5, World.block_lt_of_cell? w _ e6, e6, e7⟩
theorem Rd2.take {a : Option Addr} {n c : Nat} (h : Rd2 N w (.slice a n c) xs) {k : Nat} (hk : k ≤ xs.length) : Rd2 N w (.slice a k c) (xs.take k) := by
  obtain ⟨a', c', h1, h2, h3, h4, h5⟩ := h
  injection h1 with e1 e2 e3
  subst e1 e3
  refine ⟨a, c, by rw [List.length_take, Nat.min_eq_left hk], by rw [List.length_take]; omega, h3, h4, fun j x hj => ?_⟩
  by_cases hjk : j < k
  · rw [List.getElem?_take_of_lt hjk] at hj
    exact h5 j x hj
  · rw [List.getElem?_eq_none (by rw [List.length_take]; omega)] at hj
    cases hj
end

theorem str_ne {a b : ByteArray} (h : a ≠ b) : (a.toList == b.toList) = false := by
  refine beq_false_of_ne (fun e => h ?_)
  rw [ByteArray.toList_eq, ByteArray.toList_eq] at e
  obtain ⟨a⟩ := a
  obtain ⟨b⟩ := b
  exact congrArg ByteArray.mk (Array.toList_inj.1 e)
/-- Where a key is; below 0: nowhere. -/
def idxOf (k : ByteArray) : List Itm → Nat → Int
  | [], _ => -1
  | x :: l, i => if x.1 = k then (i : Int) else idxOf k l (i + 1)
theorem idxOf_step (k : ByteArray) (l : List Itm) (i : Nat) (h : i < l.length) : idxOf k (l.drop i) i = if l[i].1 = k then (i : Int) else idxOf k (l.drop (i + 1)) (i + 1) := by
  rw [List.drop_eq_getElem_cons h, idxOf]
theorem idxOf_some {k : ByteArray} {v : Int} {m2 : List Itm} : ∀ (m1 : List Itm) (i : Nat), k ∉ m1.map Prod.fst → idxOf k (m1 ++ (k, v) :: m2) i = ((i + m1.length : Nat) : Int)
  | [], i, _ => by simp [idxOf]
  | x :: l, i, h => by
    rw [List.map_cons, List.mem_cons, not_or] at h
    rw [List.cons_append, idxOf, if_neg (fun e => h.1 e.symm), idxOf_some l (i + 1) h.2]
    simp; omega
theorem idxOf_none {k : ByteArray} : ∀ (l : List Itm) (i : Nat), k ∉ l.map Prod.fst → idxOf k l i = -1
  | [], i, _ => rfl
  | x :: l, i, h => by
    rw [List.map_cons, List.mem_cons, not_or] at h
    rw [idxOf, if_neg (fun e => h.1 e.symm), idxOf_none l (i + 1) h.2]

set_option maxHeartbeats 1000000 in
theorem rfind_n {w : World} {v : Value} {xs : List Itm} {k : ByteArray} (h : Rd2 (fun _ => True) w v xs) (hl : xs.length ≤ 5000) : Calls Try.prog 13 #[v, .string k] w fun e w' => e = .returned (.int .i64 (idxOf k xs 0)) ∧ Below w.heap.size w w' := by
  obtain ⟨a, c, rfl, hc1, hc2, hcell⟩ := h.view
  have HC := Lib.hid hcell; clear hcell h
  go_enter Try.func13, Try.ntmps13
  go_wp2
  go_loopw [5] (fun i wr => ∃ i' : Nat, i' ≤ xs.length ∧ i = .int .i64 i' ∧ idxOf k xs 0 = idxOf k (xs.drop i') i' ∧ Below w.heap.size w wr) (fun i _ => xs.length - (intOf i).toNat)
  case atStart => exact ⟨0, Nat.zero_le _, rfl, rfl, Below.refl _ _⟩
  case round =>
    obtain ⟨i, hi, rfl, hix, hB⟩ := hrel
    by_cases hil : i < xs.length
    · have wi1 : IntKind.i64.wrap ((i : Int) + 1) = (i : Int) + 1 := by rw [IntKind.wrap_i64]; omega
      obtain ⟨g, off, rfl, -, hg, c0, -⟩ := HC.out i xs[i] (List.getElem?_eq_getElem hil)
      have c0' := (hB.cell (p := ⟨g, off + i * 2, none⟩) hg).trans c0
      have hst := idxOf_step k xs i hil
      generalize xs[i].1 = y at *
      clear c0
      by_cases hy : y = k
      · subst hy
        rw [if_pos rfl] at hst
        have Hst := Lib.hid hst; have Hix := Lib.hid hix; clear hst hix
        go_wp2
        go_ret
        exact ⟨congrArg (fun z => Ending.returned (.int .i64 z)) (Hix.out.trans Hst.out).symm, hB⟩
      · have hy' := str_ne hy
        rw [if_neg hy] at hst
        have Hst := Lib.hid hst; have Hix := Lib.hid hix; clear hst hix
        go_wp2
        go_roundw
        case rel => exact ⟨i + 1, hil, rfl, Hix.out.trans Hst.out, hB⟩
        case measure => simp [intOf]; omega
    · obtain rfl : i = xs.length := by omega
      go_wp2
      go_ret
      refine ⟨?_, hB⟩
      rw [hix, List.drop_eq_nil_of_le (Nat.le_refl _)]; rfl

/-- An item ahead of all others, without what had its key. -/
def front (x : Itm) (l : List Itm) : List Itm := x :: l.filter (fun y => decide (y.1 ≠ x.1))
theorem itemRow : (Try.prog.info? 45).map (fun i => (i.zero, i.size, i.bytes)) = some (some (.agg #[.string ⟨#[]⟩, .int .i64 0]), 2, 24) := by kernel_rfl
theorem lt_size {w : World} {k : Nat} {o : Obj} (h : w.heap[k]? = some o) : k < w.heap.size := by
  rcases Nat.lt_or_ge k w.heap.size with h' | h'
  · exact h'
  · simp [Array.getElem?_eq_none h'] at h
theorem own_one2 {W : World} {B base : Nat} {E : TypeId} {x y : Value} (h : W.heap[B]? = some (.cells #[x, y] E (0, 0))) (hb : base ≤ B) : W.ownsRow base E 2 (.slice (some ⟨B, 0, none⟩) 1 1) 1 [x, y] :=
  ⟨rfl, .inr ⟨B, 1, #[x, y], rfl, hb, h, Nat.le_refl _, by decide, rfl, rfl⟩⟩
theorem cell_two_new (w : World) (x y : Value) (t : TypeId) : ∀ j u, [x, y][j]? = some u → (w.alloc (.cells #[x, y] t)).cell? ((⟨w.heap.size, 0, none⟩ : Addr).add j) = some u := by
  intro j u hj
  have h := heap_alloc_new w (.cells #[x, y] t)
  rw [Go.WideShapes.add_plain]
  match j, hj with
  | 0, hj => exact cell_at h (by simpa using hj)
  | 1, hj => exact cell_at h (by simpa using hj)
  | j + 2, hj => simp at hj
theorem front_take {x : Itm} {xs : List Itm} {i : Nat} (h : i < xs.length) : front x (xs.take (i + 1)) = front x (xs.take i) ++ (if decide (xs[i].1 ≠ x.1) = true then [xs[i]] else []) := by
  unfold front
  rw [List.take_succ_eq_append_getElem h, List.filter_append, List.cons_append, List.filter_cons, List.filter_nil]
theorem front_len (x : Itm) (xs : List Itm) : (front x xs).length ≤ xs.length + 1 := by
  unfold front
  rw [List.length_cons]
  exact Nat.succ_le_succ (List.length_filter_le _ _)

set_option maxRecDepth 100000 in
set_option maxHeartbeats 2000000 in
theorem rfront_n {w : World} {v : Value} {xs : List Itm} {s : ByteArray} {n : Int} (h : Rd2 (fun _ => True) w v xs) (hl : xs.length ≤ 5000) : Calls Try.prog 15 #[v, .agg #[.string s, .int .i64 n]] w fun e w' => ∃ u, e = .returned u ∧ Rd2 (fun g => w.heap.size ≤ g) w' u (front (s, n) xs) ∧ Below w.heap.size w w' := by
  obtain ⟨i0, hi, hz0, hz1, hz2⟩ := info_parts itemRow
  obtain ⟨a, c, rfl, hc1, hc2, hcell⟩ := h.view
  have HC := Lib.hid hcell; clear hcell h
  go_enter Try.func15, Try.ntmps15
  go_wp2
  go_loopw [5, 6] (fun u i wr => ∃ i' : Nat, i' ≤ xs.length ∧ i = .int .i64 i' ∧ wr.ownsRow (w.heap.size + 1) 45 2 u (front (s, n) (xs.take i')).length (flat (front (s, n) (xs.take i'))) ∧ wr.heap[w.heap.size]? = some (.cells #[.string s, .int .i64 n] 45 (0, 0)) ∧ Below w.heap.size w wr) (fun _ i _ => xs.length - (intOf i).toNat)
  case atStart =>
    refine ⟨0, Nat.zero_le _, rfl, ?_, ?_, ((Below.refl _ w).alloc (Nat.le_refl _) _).alloc (by simp) _⟩
    · exact own_one2 (by simpa using heap_alloc_new (w.alloc (.cells #[.string s, .int .i64 n] 45 (0, 0))) (.cells #[.string s, .int .i64 n] 45 (0, 0))) (Nat.le_refl _)
    · rw [Below.heap_alloc _ _ _ (by simp)]; exact heap_alloc_new w _
  case round =>
    obtain ⟨i, hi', rfl, hown, hbx, hB⟩ := hrel
    by_cases hil : i < xs.length
    · have wi1 : IntKind.i64.wrap ((i : Int) + 1) = (i : Int) + 1 := by rw [IntKind.wrap_i64]; omega
      obtain ⟨g, off, rfl, -, hg, c0, c1⟩ := HC.out i xs[i] (List.getElem?_eq_getElem hil)
      have c0' := (hB.cell (p := ⟨g, off + i * 2, none⟩) hg).trans c0
      have c1' := (hB.cell (p := ⟨g, off + i * 2 + 1, none⟩) hg).trans c1
      have x0 := cell_at (j := 0) (v := .string s) hbx rfl
      have hft := front_take (x := (s, n)) hil
      have hfl := front_len (s, n) (xs.take i)
      rw [List.length_take] at hfl
      generalize xs[i] = y at *
      obtain ⟨ys, yn⟩ := y
      simp only at c0' c1' hft
      clear c0 c1
      have Hft := Lib.hid hft; have Hown := Lib.hid hown; have Hbx := Lib.hid hbx; have HB := Lib.hid hB; have Hfl := Lib.hid hfl
      clear hft hown hbx hB hfl
      by_cases hy : ys = s
      · subst hy
        go_upto_region 5 with fail
        go_quiet (fail)
        go_wp2
        go_roundw
        case rel =>
          refine ⟨i + 1, hil, rfl, ?_, Hbx.out, below_drewN HB.out _⟩
          have h1 := Hft.out
          simp only [ne_eq, not_true_eq_false, decide_false, Bool.false_eq_true, if_false, List.append_nil] at h1
          rw [h1]
          exact ownsRow_fr Hown.out (Fr.of_drewN wr nq) (fun _ _ h => h)
        case measure => simp [intOf]; omega
      · have hy' := str_ne hy
        have hN1 : ∀ W : World, w.heap.size ≤ W.heap.size → w.heap.size + 1 ≤ W.heap.size + 1 := fun W h => by omega
        go_upto_region 5 with fail
        go_quiet (fail)
        go_wp2_with (at_builtin; refine wpList_append_own _ rfl _ _ 39 rfl (w.heap.size + 1) 45 i0 (.agg #[.string ⟨#[]⟩, .int .i64 0]) 2 24 Try.underlying39 hi hz0 hz1 hz2 rfl (by decide) _ _ _ rfl ((ownsRow_fr Hown.out (Fr.of_drewN wr nq) (fun _ _ h => h)).alloc _) ⟨wr.heap.size, 0, none⟩ 1 1 [.string ys, .int .i64 yn] rfl rfl (cell_two_new _ _ _ _) (by simp [Value.oneCell']) (by have := Hfl.out; unfold maxLen; omega) (by have := Hfl.out; omega) (by have h1 := lt_size Hbx.out; have h2 : (wr.drewN nq).heap.size = wr.heap.size := rfl; rw [World.size_alloc, h2]; omega) ?_; intro v2 w2 hown2 hg2 _)
        have F2 : Fr (fun k => some k = u5.ownBlock) wr w2 := ⟨hg2.os, hg2.tape, hg2.output, by have := hg2.size; rw [World.size_alloc] at this; exact Nat.le_trans (Nat.le_succ _) this, fun k hk hn => by rw [hg2.block k (by rw [World.size_alloc]; exact Nat.lt_succ_of_lt hk) hn]; exact Below.heap_alloc (wr.drewN nq) _ _ hk⟩
        have hno : ∀ k, some k = u5.ownBlock → w.heap.size + 1 ≤ k := fun k e => (Hown.out.lt k e.symm).1
        go_roundw
        case rel =>
          refine ⟨i + 1, hil, rfl, ?_, F2.at Hbx.out (fun e => by have := hno _ e; omega), HB.out.trans (F2.below HB.out.size (fun k hk e => by have := hno _ e; omega))⟩
          have h1 := Hft.out
          simp only [ne_eq, hy, not_false_eq_true, decide_true, if_true] at h1
          rw [h1, flat_append, List.length_append]
          exact hown2
        case measure => simp [intOf]; omega
    · obtain rfl : i = xs.length := by omega
      go_wp2
      go_ret
      rw [List.take_length] at hown
      exact ⟨_, rfl, Rd2.of_own hown (fun g hg => by omega), hB⟩
end Go.Proofs.Ytkbcfagggjfhhaa
