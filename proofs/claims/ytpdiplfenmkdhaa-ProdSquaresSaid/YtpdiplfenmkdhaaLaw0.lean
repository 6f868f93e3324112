/- What chapter 02's laws share: numbers that came in, alive(), same(). Conditions: the lists are short. -/
import Derived.Test.YtpdiplfenmkdhaaRef4
import Derived.ProofKit
namespace Go.Proofs.Ytpdiplfenmkdhaa
open Go.RowKit Go.ChangeShapes Go.WideShapes

/-- What the walk is told of a slice of integers that came in. -/
def IsRow (k : IntKind) (w : World) (a : Option Addr) (len cap : Nat) (zs : List Int) : Prop :=
  (a = none ∧ len = 0 ∧ cap = 0 ∧ zs = []) ∨
  ∃ x, a = some x ∧ len ≤ cap ∧ cap ≤ maxLen ∧ zs.length = cap ∧ (∀ i, i < zs.length → w.cell? (x.add i) = some (.int k (zs.getD i 0))) ∧ ∀ n ∈ zs, (Lit.int k n).wf = true

theorem IsRow.nums {w : World} {a : Option Addr} {len cap : Nat} {zs : List Int} (h : IsRow .u64 w a len cap zs) : ∃ l : List Nat, l.length = len ∧ Dig BB l ∧ RdN w (.slice a len cap) l ∧ len ≤ 9223372036854775807 := by
  rcases h with ⟨rfl, rfl, rfl, rfl⟩ | ⟨⟨b, off, sp⟩, rfl, hl, hm, hz, hc, hw⟩
  · exact ⟨[], rfl, Dig.nil _, Rd.nil _ _, by omega⟩
  · have hwf : ∀ i, i < zs.length → 0 ≤ zs.getD i 0 ∧ zs.getD i 0 < 18446744073709551616 := fun i hi => by
      have := hw (zs.getD i 0) (by rw [List.getD_eq_getElem?_getD, List.getElem?_eq_getElem hi]; exact List.getElem_mem hi)
      have := (by simpa [Lit.wf, IntKind.min, IntKind.max, IntKind.bits, IntKind.signed] using this : 0 ≤ zs.getD i 0 ∧ zs.getD i 0 ≤ 18446744073709551615)
      omega
    have hlen : ((zs.take len).map Int.toNat).length = len := by simp; omega
    have hget : ∀ j, j < len → ((zs.take len).map Int.toNat)[j]? = some (zs.getD j 0).toNat := fun j hj => by
      rw [List.getElem?_map, List.getElem?_take_of_lt hj, List.getElem?_eq_getElem (by omega), List.getD_eq_getElem?_getD, List.getElem?_eq_getElem (by omega)]; rfl
    refine ⟨(zs.take len).map Int.toNat, hlen, fun x hx => ?_, ⟨some ⟨b, off, sp⟩, cap, by rw [List.length_map, hlen], by rw [List.length_map, hlen]; exact hl, hm, (fun h => by simp at h), fun j u hj => ?_⟩, by unfold maxLen at hm; omega⟩
    · obtain ⟨j, hj, rfl⟩ := List.getElem_of_mem hx
      rw [hlen] at hj
      have e := hget j hj
      rw [List.getElem?_eq_getElem (by omega)] at e
      rw [Option.some.inj e]
      have := hwf j (by omega)
      unfold BB; omega
    · have hj' : j < len := by
        have := (List.getElem?_eq_some_iff.1 hj).1
        rw [List.length_map, hlen] at this; exact this
      have hs : sp = none := by simpa [Addr.add] using World.cell?_spot (hc 0 (by omega))
      subst hs
      have hc' := hc j (by omega)
      rw [add_plain] at hc'
      rw [List.getElem?_map, hget j hj', Option.map_some, Option.some.injEq] at hj
      have := hwf j (by omega)
      exact ⟨b, off, rfl, trivial, by rw [hc', ← hj, L64, Int.toNat_of_nonneg this.1]⟩

/-- The cells of a block that is new. -/
theorem rd_arr {N : Nat → Prop} {W : World} {B n : Nat} {E : TypeId} {c : Array Value} {fz : Nat × Nat} (h : W.heap[B]? = some (.cells c E fz)) (hN : N B) (hn : c.size = n) (hm : n ≤ maxLen) : Rd N W (.slice (some ⟨B, 0, none⟩) n n) c.toList :=
  ⟨some ⟨B, 0, none⟩, n, by rw [Array.length_toList, hn], by rw [Array.length_toList, hn]; exact Nat.le_refl _, hm, (fun h => by simp at h), fun j u hj => ⟨B, 0, rfl, hN, cell_at h (by rw [Nat.zero_add, ← hj, Array.getElem?_toList])⟩⟩

theorem same2_any {w : World} {v u : Value} {l : List Nat} {n : Nat} (h : RdN w v l) (k : RdD w u (digs DD n)) (hn : (digs DD n).length ≤ 1000000) :
    Calls Try.prog 12 #[v, u] w (fun e w' => e = .returned (.bool (decide (l = digs BB n))) ∧ Below w.heap.size w w') := by
  have HO := rof_any k hn
  have HS := Lib.hid (fun w1 u1 (hb : Below w.heap.size w w1) (h1 : RdN w1 u1 (digs BB n)) => same_any (h.below hb) h1)
  clear h k
  go_enter Try.func12, Try.ntmps12
  go_wp2_with (first
    | (go_at_call 29; (with_reducible refine HO.mono ?_); rintro e w1 ⟨v1, rfl, hr1, hb1⟩)
    | (go_at_call 11; (with_reducible refine (HS.out _ _ hb1 hr1).mono ?_); rintro e w2 ⟨rfl, hb2⟩))
  go_ret
  exact ⟨rfl, hb1.trans (hb2.mono hb1.size)⟩

theorem powR_3_4 : powR (val BB [3]) 4 = (81, 0) := by
  rw [val_one]; unfold powR
  rw [if_neg (by omega), show (4 : Int).toNat = 4 from rfl, show 3 ^ 4 = 81 from rfl, if_neg (by decide)]
theorem powR_3_m : powR (val BB [3]) (-1) = (0, 1) := by unfold powR; rw [if_pos (by omega)]
theorem powR_2 : powR (val BB [2]) 65536 = (0, 2) := by
  rw [val_one]; unfold powR
  rw [if_neg (by omega), show (65536 : Int).toNat = 65536 from rfl, if_pos (lt_bitN.2 (Nat.le_refl _))]

theorem below_alloc (w : World) (o : Obj) : Below w.heap.size w (w.alloc o) := (Below.refl _ _).alloc (Nat.le_refl _) _
theorem below_a {w w' : World} {o : Obj} (h : Below (w.alloc o).heap.size (w.alloc o) w') : Below w.heap.size w w' := (below_alloc w o).trans (h.mono (by simp))
theorem digs_small {n : Nat} (h0 : n ≠ 0) (h : n < BB) : digs BB n = [n] := by
  rw [digs_pos BB_two (by omega), Nat.div_eq_of_lt h, Nat.mod_eq_of_lt h, digs_zero]

set_option maxHeartbeats 400000 in
theorem alive_any (w : World) : Calls Try.prog 7 #[] w (fun e w' => e = .returned (.bool true) ∧ Below w.heap.size w w') := by
  have d3 : Dig BB [3] := Dig.cons (by decide) (Dig.nil _)
  have d2 : Dig BB [2] := Dig.cons (by decide) (Dig.nil _)
  have H1 := Lib.hid (fun w v (h : RdN w v [3]) => pow_any (k := 4) h d3 (by simp) (by omega) (by omega))
  have H2 := Lib.hid (fun w v (h : RdN w v [3]) => pow_any (k := -1) h d3 (by simp) (by omega) (by omega))
  have H3 := Lib.hid (fun w v (h : RdN w v [2]) => pow_any (k := 65536) h d2 (by simp) (by omega) (by omega))
  have H4 := Lib.hid (fun w v u (h : RdN w v (digs BB 81)) (k : RdN w u [81]) => same_any h k)
  rw [digs_small (by decide) (by decide), decide_eq_true rfl] at H4
  rw [powR_3_4] at H1
  rw [powR_3_m] at H2
  rw [powR_2] at H3
  go_enter Try.func7, Try.ntmps7
  go_wp2_with (first
    | (go_at_call 10; (with_reducible refine (H1.out _ _ ?_).mono ?_); (exact rd_one (heap_alloc_new _ _) trivial); rintro e w1 ⟨v1, rfl, hr1, hb1⟩)
    | (go_at_call 10; (with_reducible refine (H2.out _ _ ?_).mono ?_); (exact rd_one (heap_alloc_new _ _) trivial); rintro e w2 ⟨v2, rfl, -, hb2⟩)
    | (go_at_call 10; (with_reducible refine (H3.out _ _ ?_).mono ?_); (exact rd_one (heap_alloc_new _ _) trivial); rintro e w3 ⟨v3, rfl, -, hb3⟩)
    | (go_at_call 11; (with_reducible refine (H4.out _ _ _ ((hr1.below (below_a hb2)).below (below_a hb3) |>.below (below_alloc _ _)) ?_).mono ?_); (exact rd_one (heap_alloc_new _ _) trivial); rintro e w4 ⟨rfl, hb4⟩))
  go_ret
  exact ⟨rfl, (below_a hb1).trans (((below_a hb2).trans (((below_a hb3).trans ((below_a hb4).mono (below_a hb3).size)).mono (below_a hb2).size)).mono (below_a hb1).size)⟩
end Go.Proofs.Ytpdiplfenmkdhaa
