/- BoundTells returns true and leaves what was there: the walk. Conditions: math/bits' table stands in its variable. -/
import Derived.Test.YtflkemcoomgoiaaDoorBd5
import Derived.Test.YtflkemcoomgoiaaDoorBd6
namespace Go.Proofs.YtflkemcoomgoiaaDoor.PBTells
set_option maxRecDepth 100000
open Go.RowKit Go.Proofs.YtflkemcoomgoiaaDoor


theorem res_bad {cls dir : Int} {neg : Bool} (h : cls < 1 ∨ 4 < cls ∨ dir < 0 ∨ 3 < dir) : resB cls neg dir = (0, 0, false) := by
  unfold resB
  by_cases hd : dir < 0 ∨ 3 < dir
  · rw [if_pos hd]
  · rw [if_neg hd, if_neg (by omega), if_neg (by omega), if_neg (by omega), if_neg (by omega)]
theorem res_good {cls dir : Int} {neg : Bool} (h1 : 1 ≤ cls) (h2 : cls ≤ 4) (h3 : 0 ≤ dir) (h4 : dir ≤ 3) : ∃ b f, resB cls neg dir = (b, f, true) ∧ (f = 5 ∨ f = 3 ∨ f = 1) := by
  unfold resB
  rw [if_neg (by omega)]
  by_cases c1 : cls = 1
  · rw [if_pos c1]; exact ⟨_, _, rfl, .inl rfl⟩
  rw [if_neg c1]
  by_cases c2 : cls = 2
  · rw [if_pos c2]; exact ⟨_, _, rfl, .inr (.inl rfl)⟩
  rw [if_neg c2]
  by_cases c3 : cls = 3
  · rw [if_pos c3]; exact ⟨_, _, rfl, .inr (.inr rfl)⟩
  rw [if_neg c3, if_pos (by omega)]
  exact ⟨_, _, rfl, .inr (.inr rfl)⟩

set_option maxHeartbeats 2000000 in
theorem walk (a0 : Int) (a1 : Bool) (a2 : Int) (w : World) (_w0 : (Lit.int .i64 a0).wf = true) (_w2 : (Lit.int .i64 a2).wf = true) (hT : Tab w) :
    Calls Tryd.prog 4 #[.int .i64 a0, .bool a1, .int .i64 a2] w fun e w' => e = .returned (.bool true) ∧ Below w.heap.size w w' := by
  have B0 : Below w.heap.size w w := Below.refl _ _
  by_cases hbad : a0 < 1 ∨ 4 < a0 ∨ a2 < 0 ∨ 3 < a2
  · have RS := Lib.hid (fun w (hT : Tab w) => Result_n (w := w) hT (res_bad (neg := a1) hbad))
    by_cases x1 : a0 < 1
    · have d1 : decide (a0 < 1) = true := decide_eq_true x1
      clear hbad
      go_enter Tryd.func4, Tryd.ntmps4
      go_wp2_with
      (first
        | (go_at_call 6; (with_reducible refine (alive21_any hT).mono ?_); rintro e w1 ⟨rfl, hb1⟩; have B1 := B0.trans (hb1.mono B0.size); have T1 := hT.below hb1; clear hT)
        | (go_at_call 12; (with_reducible refine (RS.out _ T1).mono ?_); rintro e w2 ⟨rfl, hb2⟩; have B2 := B1.trans (hb2.mono B1.size); have T2 := T1.below hb2; clear T1)
        | fail)
      all_goals
        go_ret
        exact ⟨rfl, by assumption⟩
    have d1 : decide (a0 < 1) = false := decide_eq_false x1
    by_cases x2 : 4 < a0
    · have d2 : decide (4 < a0) = true := decide_eq_true x2
      clear hbad
      go_enter Tryd.func4, Tryd.ntmps4
      go_wp2_with
      (first
        | (go_at_call 6; (with_reducible refine (alive21_any hT).mono ?_); rintro e w1 ⟨rfl, hb1⟩; have B1 := B0.trans (hb1.mono B0.size); have T1 := hT.below hb1; clear hT)
        | (go_at_call 12; (with_reducible refine (RS.out _ T1).mono ?_); rintro e w2 ⟨rfl, hb2⟩; have B2 := B1.trans (hb2.mono B1.size); have T2 := T1.below hb2; clear T1)
        | fail)
      all_goals
        go_ret
        exact ⟨rfl, by assumption⟩
    have d2 : decide (4 < a0) = false := decide_eq_false x2
    by_cases x3 : a2 < 0
    · have d3 : decide (a2 < 0) = true := decide_eq_true x3
      clear hbad
      go_enter Tryd.func4, Tryd.ntmps4
      go_wp2_with
      (first
        | (go_at_call 6; (with_reducible refine (alive21_any hT).mono ?_); rintro e w1 ⟨rfl, hb1⟩; have B1 := B0.trans (hb1.mono B0.size); have T1 := hT.below hb1; clear hT)
        | (go_at_call 12; (with_reducible refine (RS.out _ T1).mono ?_); rintro e w2 ⟨rfl, hb2⟩; have B2 := B1.trans (hb2.mono B1.size); have T2 := T1.below hb2; clear T1)
        | fail)
      all_goals
        go_ret
        exact ⟨rfl, by assumption⟩
    have d3 : decide (a2 < 0) = false := decide_eq_false x3
    have d4 : decide (3 < a2) = true := decide_eq_true (by omega)
    clear hbad
    go_enter Tryd.func4, Tryd.ntmps4
    go_wp2_with
    (first
      | (go_at_call 6; (with_reducible refine (alive21_any hT).mono ?_); rintro e w1 ⟨rfl, hb1⟩; have B1 := B0.trans (hb1.mono B0.size); have T1 := hT.below hb1; clear hT)
      | (go_at_call 12; (with_reducible refine (RS.out _ T1).mono ?_); rintro e w2 ⟨rfl, hb2⟩; have B2 := B1.trans (hb2.mono B1.size); have T2 := T1.below hb2; clear T1)
      | fail)
    all_goals
      go_ret
      exact ⟨rfl, by assumption⟩
  · have h1 : 1 ≤ a0 := by omega
    have h2 : a0 ≤ 4 := by omega
    have h3 : 0 ≤ a2 := by omega
    have h4 : a2 ≤ 3 := by omega
    have d1 : decide (a0 < 1) = false := decide_eq_false (by omega)
    have d2 : decide (4 < a0) = false := decide_eq_false (by omega)
    have d3 : decide (a2 < 0) = false := decide_eq_false (by omega)
    have d4 : decide (3 < a2) = false := decide_eq_false (by omega)
    obtain ⟨b, f, hr, hf⟩ := res_good (neg := a1) h1 h2 h3 h4
    have RS := Lib.hid (fun w (hT : Tab w) => Result_n (w := w) hT hr)
    have RR := Lib.hid (fun w => RRes_n (w := w) (neg := a1) h1 h2 h3 h4)
    rw [hr] at RR
    simp only at RR
    clear hr hbad h1 h2 h3 h4
    rcases hf with rfl | rfl | rfl
    all_goals
      go_enter Tryd.func4, Tryd.ntmps4
      go_wp2_with
      (first
        | (go_at_call 6; (with_reducible refine (alive21_any hT).mono ?_); rintro e w1 ⟨rfl, hb1⟩; have B1 := B0.trans (hb1.mono B0.size); have T1 := hT.below hb1; clear hT)
        | (go_at_call 12; (with_reducible refine (RS.out _ T1).mono ?_); rintro e w2 ⟨rfl, hb2⟩; have B2 := B1.trans (hb2.mono B1.size); have T2 := T1.below hb2; clear T1)
        | (go_at_call 13; (with_reducible refine (RR.out _).mono ?_); rintro e w3 ⟨rfl, rfl⟩)
        | fail)
      all_goals
        go_ret
        exact ⟨rfl, by assumption⟩
end Go.Proofs.YtflkemcoomgoiaaDoor.PBTells
