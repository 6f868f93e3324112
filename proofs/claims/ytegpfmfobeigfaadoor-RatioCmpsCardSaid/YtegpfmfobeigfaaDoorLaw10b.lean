/- Chapter 10's own size, bits, fits; planimeterref05.Top. Conditions: the numbers are short. -/
import Derived.Test.YtegpfmfobeigfaaDoorRefDy3
import Derived.Test.YtegpfmfobeigfaaDoorLaw10
import Derived.StillTailTactics
import Derived.Deep.RegionHeld3
namespace Go.Proofs.YtegpfmfobeigfaaDoor
set_option maxRecDepth 100000
open Go.RowKit Go.ChangeShapes Go.WideShapes

/-- A number's size, up to 100000. -/
def lsize (n : Int) : Nat := min n.natAbs 100000
theorem lsize_n {w : World} {n : Int} : Calls Tryd.prog 19 #[.int .i64 n] w (fun e w' => e = .returned (.int .i64 (lsize n : Nat)) ∧ w' = w) := by
  unfold lsize
  by_cases c1 : n < -100000
  · have d1 : decide (n < -100000) = true := decide_eq_true c1
    have e : ((min n.natAbs 100000 : Nat) : Int) = 100000 := by omega
    rw [e]
    clear e
    go_enter Tryd.func19, Tryd.ntmps19
    go_wp2
    all_goals
      go_ret
      exact ⟨rfl, rfl⟩
  · have d1 : decide (n < -100000) = false := decide_eq_false c1
    by_cases c2 : 100000 < n
    · have d2 : decide (100000 < n) = true := decide_eq_true c2
      have e : ((min n.natAbs 100000 : Nat) : Int) = 100000 := by omega
      rw [e]
      clear e
      go_enter Tryd.func19, Tryd.ntmps19
      go_wp2
      all_goals
        go_ret
        exact ⟨rfl, rfl⟩
    · have d2 : decide (100000 < n) = false := decide_eq_false c2
      by_cases c3 : n < 0
      · have d3 : decide (n < 0) = true := decide_eq_true c3
        have e : ((min n.natAbs 100000 : Nat) : Int) = -n := by omega
        have hw : IntKind.i64.wrap (-n) = -n := by rw [IntKind.wrap_i64]; omega
        rw [e]
        clear e
        go_enter Tryd.func19, Tryd.ntmps19
        go_wp2
        all_goals
          go_ret
          exact ⟨rfl, rfl⟩
      · have d3 : decide (n < 0) = false := decide_eq_false c3
        have e : ((min n.natAbs 100000 : Nat) : Int) = n := by omega
        rw [e]
        clear e
        go_enter Tryd.func19, Tryd.ntmps19
        go_wp2
        all_goals
          go_ret
          exact ⟨rfl, rfl⟩

set_option maxHeartbeats 800000 in
theorem RTop_n {w : World} {u : Value} {neg : Bool} {M : Nat} {E : Int} (h : RdD w u (digs DD M)) (sM : bitN M ≤ 200000) (h1 : -4294967296 ≤ E) (h2 : E ≤ 4294967296) :
    Calls Tryd.prog 35 #[.agg #[.bool neg, u, .int .i64 E]] w (fun e w' => e = .returned (.int .i64 (topD ⟨neg, M, E⟩)) ∧ Below w.heap.size w w') := by
  obtain ⟨a, n, k, rfl⟩ := h.slice
  have sM4 : bitN M ≤ 400000 := by omega
  unfold topD
  simp only
  obtain ⟨b, hb⟩ : ∃ b, bitN M = b := ⟨_, rfl⟩
  have eb := Lib.hid hb
  rw [hb]
  have hw1 : IntKind.i64.wrap ((b : Int) - 1) = (b : Int) - 1 := by rw [IntKind.wrap_i64]; omega
  have hw2 : IntKind.i64.wrap ((b : Int) - 1 + E) = (b : Int) - 1 + E := by rw [IntKind.wrap_i64]; omega
  clear hb
  go_enter Tryd.func35, Tryd.ntmps35
  go_wp2_with fail
  have hA : Below w.heap.size w (w.alloc (.cells #[.bool neg, .slice a n k, .int .i64 E] 28)) := below_alloc _ _
  have hX := h.below hA
  have PX : Blk (w.alloc (.cells #[.bool neg, .slice a n k, .int .i64 E] 28)) w.heap.size #[.bool neg, .slice a n k, .int .i64 E] := blk_new
  generalize w.alloc (.cells #[.bool neg, .slice a n k, .int .i64 E] 28) = w1 at *
  obtain ⟨cP0, cP1, cP2, fP0, fP1, fP2, sP⟩ := PX.open3
  have hD : RdD w1.drew _ _ := hX.below (below_drewN (Below.refl _ _) 1)
  have HB := Lib.hid (rbits_n hD eb.out sM4)
  go_still_tail 7, (by kernel_rfl)
  still_call HB.out
  repeat still_step
  refine wpStill_nil ?_
  change wpList _ _ _ _ _ w1.drew
  have BD : Below w.heap.size w w1.drew := below_drewN hA 1
  generalize w1.drew = w2 at *
  go_wp2
  go_ret
  exact ⟨rfl, BD⟩

/-- Chapter 10's bits: of a number that fits. -/
theorem lbits_n {w : World} {u : Value} {neg : Bool} {M : Nat} {E : Int} {b : Nat} (h : RdD w u (digs DD M)) (sM : bitN M ≤ 200000) (h1 : -4294967296 ≤ E) (h2 : E ≤ 4294967296) (e : bitN M = b) :
    Calls Tryd.prog 13 #[.agg #[.bool neg, u, .int .i64 E]] w (fun e w' => e = .returned (.int .i64 (b : Int)) ∧ Below w.heap.size w w') := by
  by_cases h0 : M = 0
  · subst h0
    obtain rfl : b = 0 := by rw [← e, bitN_zero]
    rw [digs_zero] at h
    obtain ⟨a, k, rfl, -⟩ := h.view
    go_enter Tryd.func13, Tryd.ntmps13
    go_wp2
    all_goals
      go_ret
      exact ⟨rfl, below_alloc _ _⟩
  · have hsn : digs DD M ≠ [] := fun e => h0 ((digs_nil_iff DD_two _).1 e)
    have hsi : ((digs DD M).length : Int) ≠ 0 := by have := List.length_pos_iff.2 hsn; omega
    obtain ⟨a, k, rfl, -⟩ := h.view
    have HT := Lib.hid (fun w u (h : RdD w u (digs DD M)) => RTop_n (neg := neg) h sM h1 h2)
    obtain ⟨t, ht⟩ : ∃ t, topD ⟨neg, M, E⟩ = t := ⟨_, rfl⟩
    rw [ht] at HT
    have hte : t - E + 1 = (b : Int) := by rw [← ht, ← e]; unfold topD; simp only; omega
    have htb : t.natAbs ≤ 8589934592 := by rw [← ht]; unfold topD; simp only; omega
    have hw1 : IntKind.i64.wrap (t - E) = t - E := by rw [IntKind.wrap_i64]; omega
    have hw2 : IntKind.i64.wrap (t - E + 1) = (b : Int) := by rw [IntKind.wrap_i64]; omega
    have hw3 : IntKind.i64.wrap (b : Int) = (b : Int) := by rw [IntKind.wrap_i64]; omega
    clear ht e
    go_enter Tryd.func13, Tryd.ntmps13
    go_wp2_with fail
    have hA : Below w.heap.size w (w.alloc (.cells #[.bool neg, .slice a (digs DD M).length k, .int .i64 E] 28)) := below_alloc _ _
    have hX := h.below hA
    have PX : Blk (w.alloc (.cells #[.bool neg, .slice a (digs DD M).length k, .int .i64 E] 28)) w.heap.size #[.bool neg, .slice a (digs DD M).length k, .int .i64 E] := blk_new
    generalize w.alloc (.cells #[.bool neg, .slice a (digs DD M).length k, .int .i64 E] 28) = w1 at *
    have hAD : Below w1.heap.size w1 w1.drew := below_drewN (Below.refl _ _) 1
    have PD := PX.below hAD
    have hD := hX.below hAD
    have BD : Below w.heap.size w w1.drew := below_drewN hA 1
    obtain ⟨cP0, cP1, cP2, fP0, fP1, fP2, sP⟩ := PD.open3
    go_region_held3 (fun w' => w'.cell? ⟨w.heap.size, 0, none⟩ = some (.bool neg) ∧ w'.cell? ⟨w.heap.size, 1, none⟩ = some (.slice a (digs DD M).length k) ∧ w'.cell? ⟨w.heap.size, 2, none⟩ = some (.int .i64 E)) (first | with_reducible exact ⟨cP0, cP1, cP2⟩ | with_reducible exact ⟨c3.1, c3.2.1, c3.2.2.1⟩)
      (first
        | (go_at_call 35; (with_reducible refine (HT.out _ _ hD).mono ?_); rintro e w3 ⟨rfl, hb3⟩; have c3 := (PD.below hb3).open3)
        | fail)
    all_goals
      go_wp2_with fail
      go_ret
      exact ⟨by simp, BD.trans (hb3.mono BD.size)⟩
end Go.Proofs.YtegpfmfobeigfaaDoor
