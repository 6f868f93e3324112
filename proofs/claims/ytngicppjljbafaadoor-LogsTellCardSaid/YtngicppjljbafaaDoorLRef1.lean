/- planimeterref13.Right by its contract. Conditions: the numbers are short. -/
import Derived.Test.YtngicppjljbafaaDoorLogB
import Derived.Test.YtngicppjljbafaaDoorRefE
namespace Go.Proofs.YtngicppjljbafaaDoor
set_option maxRecDepth 100000
open Go.RowKit Go.ChangeShapes Go.WideShapes
set_option linter.unusedVariables false

set_option maxHeartbeats 2000000 in
theorem RRight_n {w : World} {u : Value} {n' r : Bool} {M' : Nat} {E' : Int} (h : RdD w u (digs DD M')) (sM : bitN M' ≤ 200000) (rE : -4294967296 ≤ E') (rE2 : E' ≤ 4294967296)
    (hr : (fitsE E' && !n' && decide (M' ≠ 0) && decide (bitN M' ≤ 4000) && decide (-1048576 ≤ topD ⟨n', M', E'⟩) && decide (topD ⟨n', M', E'⟩ ≤ 1048576)) = r) :
    Calls Tryd.prog 10 #[.agg #[.bool n', u, .int .i64 E']] w (fun e w' => e = .returned (.bool r) ∧ Below w.heap.size w w') := by
  obtain ⟨a, n, k, rfl⟩ := h.slice
  obtain ⟨t, ht⟩ : ∃ t, topD ⟨n', M', E'⟩ = t := ⟨_, rfl⟩
  obtain ⟨s, hs⟩ : ∃ s, signD ⟨n', M', E'⟩ = s := ⟨_, rfl⟩
  obtain ⟨b, hb⟩ : ∃ b, bitN M' = b := ⟨_, rfl⟩
  have HF := Lib.hid (fun (w : World) => RFits_n (w := w) (a := a) (n := n) (k := k) (neg := n') (E := E'))
  have HS := Lib.hid (fun w (h : RdD w (.slice a n k) (digs DD M')) => RSign_n (neg := n') (E := E') h hs)
  have HTP := Lib.hid (fun w (h : RdD w (.slice a n k) (digs DD M')) => RTop_n (neg := n') h sM rE rE2)
  have eb := Lib.hid hb
  rw [ht] at HTP hr
  rw [hb] at hr
  obtain ⟨f, hf⟩ : ∃ f, fitsE E' = f := ⟨_, rfl⟩
  rw [hf] at HF hr
  have hsp : decide (s ≤ 0) = !(!n' && decide (M' ≠ 0)) := by
    rw [← hs]
    unfold signD
    by_cases h0 : M' = 0
    · simp [h0]
    · simp only [h0, if_false, ne_eq, not_false_eq_true, decide_true, Bool.and_true]
      cases n' <;> simp
  have hr2 : (f && !decide (s ≤ 0) && decide (b ≤ 4000) && decide (-1048576 ≤ t) && decide (t ≤ 1048576)) = r := by
    rw [hsp, ← hr]
    cases f <;> cases n' <;> simp
  clear hr hsp hs ht hf hb
  cases f
  · simp only [Bool.false_and] at hr2
    subst hr2
    go_enter Tryd.func10, Tryd.ntmps10
    go_wp2_with
    (first
      | (go_at_call 45; (with_reducible refine (HF.out _).mono ?_); rintro e w1 ⟨rfl, hb1⟩; have B1 := (below_alloc _ _).trans (hb1.mono (below_alloc _ _).size); have x1 := ((h.below (below_alloc _ _))).below hb1; have P1 := ((blk_new)).below hb1; obtain ⟨cP0_1, cP1_1, cP2_1, fP0_1, fP1_1, fP2_1, sP_1⟩ := P1.open3)
      | fail)
    go_ret
    exact ⟨rfl, by assumption⟩
  · by_cases c1 : s ≤ 0
    · have d1 : decide (s ≤ 0) = true := decide_eq_true c1
      rw [d1] at hr2
      simp only [Bool.not_true, Bool.and_false, Bool.false_and] at hr2
      subst hr2
      go_enter Tryd.func10, Tryd.ntmps10
      go_wp2_with
      (first
        | (go_at_call 45; (with_reducible refine (HF.out _).mono ?_); rintro e w1 ⟨rfl, hb1⟩; have B1 := (below_alloc _ _).trans (hb1.mono (below_alloc _ _).size); have x1 := ((h.below (below_alloc _ _))).below hb1; have P1 := ((blk_new)).below hb1; obtain ⟨cP0_1, cP1_1, cP2_1, fP0_1, fP1_1, fP2_1, sP_1⟩ := P1.open3)
        | (go_at_call 46; (with_reducible refine (HS.out _ x1).mono ?_); rintro e w2 ⟨rfl, hb2⟩; have B2 := B1.trans (hb2.mono B1.size); have x2 := x1.below hb2; have P2 := P1.below hb2; clear x1 P1; clear cP0_1 cP1_1 cP2_1 fP0_1 fP1_1 fP2_1 sP_1; obtain ⟨cP0_2, cP1_2, cP2_2, fP0_2, fP1_2, fP2_2, sP_2⟩ := P2.open3)
        | fail)
      go_ret
      exact ⟨rfl, by assumption⟩
    · have d1 : decide (s ≤ 0) = false := decide_eq_false c1
      rw [d1] at hr2
      by_cases c2 : 4000 < b
      · have d2 : decide (4000 < (b : Int)) = true := decide_eq_true (by omega)
        have d3 : decide (b ≤ 4000) = false := decide_eq_false (by omega)
        rw [d3] at hr2
        simp only [Bool.and_false, Bool.false_and] at hr2
        subst hr2
        clear d3
        go_enter Tryd.func10, Tryd.ntmps10
        go_wp2_with
        (first
          | (go_at_call 45; (with_reducible refine (HF.out _).mono ?_); rintro e w1 ⟨rfl, hb1⟩; have B1 := (below_alloc _ _).trans (hb1.mono (below_alloc _ _).size); have x1 := ((h.below (below_alloc _ _))).below hb1; have P1 := ((blk_new)).below hb1; obtain ⟨cP0_1, cP1_1, cP2_1, fP0_1, fP1_1, fP2_1, sP_1⟩ := P1.open3)
          | (go_at_call 46; (with_reducible refine (HS.out _ x1).mono ?_); rintro e w2 ⟨rfl, hb2⟩; have B2 := B1.trans (hb2.mono B1.size); have x2 := x1.below hb2; have P2 := P1.below hb2; clear x1 P1; clear cP0_1 cP1_1 cP2_1 fP0_1 fP1_1 fP2_1 sP_1; obtain ⟨cP0_2, cP1_2, cP2_2, fP0_2, fP1_2, fP2_2, sP_2⟩ := P2.open3)
          | (go_at_call 15; (with_reducible refine (rbits_n x2 eb.out (by omega)).mono ?_); rintro e w3 ⟨rfl, rfl⟩)
          | fail)
        go_ret
        exact ⟨rfl, by assumption⟩
      · have d2 : decide (4000 < (b : Int)) = false := decide_eq_false (by omega)
        have d3 : decide (b ≤ 4000) = true := decide_eq_true (by omega)
        rw [d3] at hr2
        simp only [Bool.not_false, Bool.and_true, Bool.true_and] at hr2
        clear d3
        by_cases c3 : -1048576 ≤ t
        · have d4 : decide (-1048576 ≤ t) = true := decide_eq_true c3
          rw [d4, Bool.true_and] at hr2
          go_enter Tryd.func10, Tryd.ntmps10
          go_wp2_with
          (first
            | (go_at_call 45; (with_reducible refine (HF.out _).mono ?_); rintro e w1 ⟨rfl, hb1⟩; have B1 := (below_alloc _ _).trans (hb1.mono (below_alloc _ _).size); have x1 := ((h.below (below_alloc _ _))).below hb1; have P1 := ((blk_new)).below hb1; obtain ⟨cP0_1, cP1_1, cP2_1, fP0_1, fP1_1, fP2_1, sP_1⟩ := P1.open3)
            | (go_at_call 46; (with_reducible refine (HS.out _ x1).mono ?_); rintro e w2 ⟨rfl, hb2⟩; have B2 := B1.trans (hb2.mono B1.size); have x2 := x1.below hb2; have P2 := P1.below hb2; clear x1 P1; clear cP0_1 cP1_1 cP2_1 fP0_1 fP1_1 fP2_1 sP_1; obtain ⟨cP0_2, cP1_2, cP2_2, fP0_2, fP1_2, fP2_2, sP_2⟩ := P2.open3)
            | (go_at_call 15; (with_reducible refine (rbits_n x2 eb.out (by omega)).mono ?_); rintro e w3 ⟨rfl, rfl⟩)
            | (go_at_call 20; (with_reducible refine (HTP.out _ x2).mono ?_); rintro e w4 ⟨rfl, hb4⟩; have B4 := B2.trans (hb4.mono B2.size); have x4 := x2.below hb4; have P4 := P2.below hb4; clear x2 P2; obtain ⟨cP0_4, cP1_4, cP2_4, fP0_4, fP1_4, fP2_4, sP_4⟩ := P4.open3)
            | fail)
          go_ret
          exact ⟨by simp, by assumption⟩
        · have d4 : decide (-1048576 ≤ t) = false := decide_eq_false c3
          rw [d4, Bool.false_and] at hr2
          subst hr2
          go_enter Tryd.func10, Tryd.ntmps10
          go_wp2_with
          (first
            | (go_at_call 45; (with_reducible refine (HF.out _).mono ?_); rintro e w1 ⟨rfl, hb1⟩; have B1 := (below_alloc _ _).trans (hb1.mono (below_alloc _ _).size); have x1 := ((h.below (below_alloc _ _))).below hb1; have P1 := ((blk_new)).below hb1; obtain ⟨cP0_1, cP1_1, cP2_1, fP0_1, fP1_1, fP2_1, sP_1⟩ := P1.open3)
            | (go_at_call 46; (with_reducible refine (HS.out _ x1).mono ?_); rintro e w2 ⟨rfl, hb2⟩; have B2 := B1.trans (hb2.mono B1.size); have x2 := x1.below hb2; have P2 := P1.below hb2; clear x1 P1; clear cP0_1 cP1_1 cP2_1 fP0_1 fP1_1 fP2_1 sP_1; obtain ⟨cP0_2, cP1_2, cP2_2, fP0_2, fP1_2, fP2_2, sP_2⟩ := P2.open3)
            | (go_at_call 15; (with_reducible refine (rbits_n x2 eb.out (by omega)).mono ?_); rintro e w3 ⟨rfl, rfl⟩)
            | (go_at_call 20; (with_reducible refine (HTP.out _ x2).mono ?_); rintro e w4 ⟨rfl, hb4⟩; have B4 := B2.trans (hb4.mono B2.size); have x4 := x2.below hb4; have P4 := P2.below hb4; clear x2 P2; obtain ⟨cP0_4, cP1_4, cP2_4, fP0_4, fP1_4, fP2_4, sP_4⟩ := P4.open3)
            | fail)
          go_ret
          exact ⟨rfl, by assumption⟩
end Go.Proofs.YtngicppjljbafaaDoor
