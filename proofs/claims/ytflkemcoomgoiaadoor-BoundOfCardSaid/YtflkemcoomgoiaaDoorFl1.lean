/- nat.Odd, round's small functions by their contracts. Conditions: none. -/
import Derived.Test.YtflkemcoomgoiaaDoorFl0
import Derived.Test.YtflkemcoomgoiaaDoorDy6
namespace Go.Proofs.YtflkemcoomgoiaaDoor
set_option maxRecDepth 100000
open Go.RowKit

theorem odd_n {w : World} {v : Value} {A : Nat} (h : Num w v A) : Calls Tryd.prog 80 #[v] w (fun e w' => e = .returned (.bool (decide (A % 2 = 1))) ∧ w' = w) := by
  obtain ⟨l, h1, h2, h3, rfl⟩ := h
  have HL := Lib.hid (limb_any h1 (i := 0) (by omega) (by omega))
  obtain ⟨x, hx, hxb, hxm⟩ : ∃ x, (if (0 : Int) < 0 then 0 else l.getD (0 : Int).toNat 0) = x ∧ x < 18446744073709551616 ∧ val BB l % 2 = x % 2 := by
    refine ⟨_, rfl, ?_, ?_⟩
    · rw [if_neg (by omega)]; exact h2.getD BB_pos _
    · rw [if_neg (by omega)]
      cases l with
      | nil => rfl
      | cons x t => rw [val_cons]; show (x + BB * val BB t) % 2 = x % 2; rw [show BB = 2 * 9223372036854775808 from rfl, Nat.mul_assoc]; omega
  rw [hx] at HL
  rw [hxm]
  have ha := and_1 x hxb
  clear h1 h2 h3 hx hxm hxb
  rcases Nat.mod_two_eq_zero_or_one x with hm | hm
  all_goals
    rw [hm] at ha ⊢
    go_enter Tryd.func80, Tryd.ntmps80
    go_wp2_with (go_at_call 89; (with_reducible refine HL.out.mono ?_); rintro e w1 ⟨rfl, rfl⟩)
    all_goals
      go_ret
      exact ⟨rfl, rfl⟩

theorem rup_n {w : World} {dir : Int} {neg : Bool} : Calls Tryd.prog 53 #[.int .i64 dir, .bool neg] w (fun e w' => e = .returned (.bool (upB dir neg)) ∧ w' = w) := by
  unfold upB
  by_cases h2 : dir = 2
  · subst h2
    cases neg
    all_goals
      go_enter Tryd.func53, Tryd.ntmps53
      go_wp2
      all_goals
        go_ret
        exact ⟨rfl, rfl⟩
  · by_cases h3 : dir = 3
    · subst h3
      cases neg
      all_goals
        go_enter Tryd.func53, Tryd.ntmps53
        go_wp2
        all_goals
          go_ret
          exact ⟨rfl, rfl⟩
    · have b2 : (dir == 2) = false := beq_false_of_ne h2
      have b3 : (dir == 3) = false := beq_false_of_ne h3
      rw [decide_eq_false h2, decide_eq_false h3]
      cases neg
      all_goals
        go_enter Tryd.func53, Tryd.ntmps53
        go_wp2
        all_goals
          go_ret
          exact ⟨rfl, rfl⟩

theorem away_n {w : World} {dir : Int} {neg odd half below : Bool} : Calls Tryd.prog 79 #[.int .i64 dir, .bool neg, .bool odd, .bool half, .bool below] w (fun e w' => e = .returned (.bool (awayB dir neg odd half below)) ∧ w' = w) := by
  unfold awayB
  by_cases h0 : dir = 0
  · subst h0
    rw [if_pos rfl]
    cases half <;> cases below
    all_goals
      go_enter Tryd.func79, Tryd.ntmps79
      go_wp2
      all_goals
        go_ret
        exact ⟨by simp, rfl⟩
  · rw [if_neg h0]
    have b0 : (dir == 0) = false := beq_false_of_ne h0
    obtain ⟨u, hu⟩ : ∃ u, upB dir neg = u := ⟨_, rfl⟩
    have HU := Lib.hid (fun w => rup_n (w := w) (dir := dir) (neg := neg))
    rw [hu] at HU ⊢
    clear hu
    cases half <;> cases below
    all_goals
      go_enter Tryd.func79, Tryd.ntmps79
      go_wp2_with (go_at_call 53; (with_reducible refine (HU.out _).mono ?_); rintro e w1 ⟨rfl, rfl⟩)
      all_goals
        go_ret
        exact ⟨rfl, rfl⟩

theorem signed_n {w : World} {b : Nat} {neg : Bool} (hb : b < 9223372036854775808) : Calls Tryd.prog 42 #[L64 b, .bool neg] w (fun e w' => e = .returned (L64 (signedB b neg)) ∧ w' = w) := by
  have ho := or_top hb
  unfold signedB
  cases neg
  all_goals
    go_enter Tryd.func42, Tryd.ntmps42
    go_wp2
    all_goals
      go_ret
      exact ⟨rfl, rfl⟩

theorem over_n {w : World} {dir : Int} {neg : Bool} : Calls Tryd.prog 28 #[.bool neg, .int .i64 dir] w (fun e w' => e = .returned (.tuple #[L64 (overB neg dir), .int .u8 5]) ∧ w' = w) := by
  unfold overB
  obtain ⟨u, hu⟩ : ∃ u, upB dir neg = u := ⟨_, rfl⟩
  have HU := Lib.hid (fun w => rup_n (w := w) (dir := dir) (neg := neg))
  rw [hu] at HU ⊢
  clear hu
  have HA := Lib.hid (fun w => signed_n (w := w) (b := 9218868437227405312) (neg := neg) (by decide))
  have HB := Lib.hid (fun w => signed_n (w := w) (b := 9218868437227405311) (neg := neg) (by decide))
  have HA : RowKit.Hid (∀ w, Calls Tryd.prog 42 #[.int .u64 9218868437227405312, .bool neg] w (fun e w' => e = .returned (L64 (signedB 9218868437227405312 neg)) ∧ w' = w)) := HA
  have HB : RowKit.Hid (∀ w, Calls Tryd.prog 42 #[.int .u64 9218868437227405311, .bool neg] w (fun e w' => e = .returned (L64 (signedB 9218868437227405311 neg)) ∧ w' = w)) := HB
  by_cases h0 : dir = 0
  · subst h0
    rw [decide_eq_true rfl, Bool.true_or, if_pos rfl]
    go_enter Tryd.func28, Tryd.ntmps28
    go_wp2_with (first | (go_at_call 53; (with_reducible refine (HU.out _).mono ?_); rintro e w1 ⟨rfl, rfl⟩) | (go_at_call 42; (with_reducible refine (HA.out _).mono ?_); rintro e w1 ⟨rfl, rfl⟩) | fail)
    all_goals
      go_ret2
      exact ⟨rfl, rfl⟩
  · have b0 : (dir == 0) = false := beq_false_of_ne h0
    rw [decide_eq_false h0, Bool.false_or]
    cases u
    · rw [if_neg (by decide)]
      go_enter Tryd.func28, Tryd.ntmps28
      go_wp2_with (first | (go_at_call 53; (with_reducible refine (HU.out _).mono ?_); rintro e w1 ⟨rfl, rfl⟩) | (go_at_call 42; (with_reducible refine (HB.out _).mono ?_); rintro e w1 ⟨rfl, rfl⟩) | fail)
      all_goals
        go_ret2
        exact ⟨rfl, rfl⟩
    · rw [if_pos rfl]
      go_enter Tryd.func28, Tryd.ntmps28
      go_wp2_with (first | (go_at_call 53; (with_reducible refine (HU.out _).mono ?_); rintro e w1 ⟨rfl, rfl⟩) | (go_at_call 42; (with_reducible refine (HA.out _).mono ?_); rintro e w1 ⟨rfl, rfl⟩) | fail)
      all_goals
        go_ret2
        exact ⟨rfl, rfl⟩

theorem under_n {w : World} {dir : Int} {neg : Bool} : Calls Tryd.prog 29 #[.bool neg, .int .i64 dir] w (fun e w' => e = .returned (.tuple #[L64 (underB neg dir), .int .u8 3]) ∧ w' = w) := by
  unfold underB
  obtain ⟨u, hu⟩ : ∃ u, upB dir neg = u := ⟨_, rfl⟩
  have HU := Lib.hid (fun w => rup_n (w := w) (dir := dir) (neg := neg))
  rw [hu] at HU ⊢
  clear hu
  have HA := Lib.hid (fun w => signed_n (w := w) (b := 1) (neg := neg) (by decide))
  have HB := Lib.hid (fun w => signed_n (w := w) (b := 0) (neg := neg) (by decide))
  have HA : RowKit.Hid (∀ w, Calls Tryd.prog 42 #[.int .u64 1, .bool neg] w (fun e w' => e = .returned (L64 (signedB 1 neg)) ∧ w' = w)) := HA
  have HB : RowKit.Hid (∀ w, Calls Tryd.prog 42 #[.int .u64 0, .bool neg] w (fun e w' => e = .returned (L64 (signedB 0 neg)) ∧ w' = w)) := HB
  cases u
  · rw [if_neg (by decide)]
    go_enter Tryd.func29, Tryd.ntmps29
    go_wp2_with (first | (go_at_call 53; (with_reducible refine (HU.out _).mono ?_); rintro e w1 ⟨rfl, rfl⟩) | (go_at_call 42; (with_reducible refine (HB.out _).mono ?_); rintro e w1 ⟨rfl, rfl⟩) | fail)
    all_goals
      go_ret2
      exact ⟨rfl, rfl⟩
  · rw [if_pos rfl]
    go_enter Tryd.func29, Tryd.ntmps29
    go_wp2_with (first | (go_at_call 53; (with_reducible refine (HU.out _).mono ?_); rintro e w1 ⟨rfl, rfl⟩) | (go_at_call 42; (with_reducible refine (HA.out _).mono ?_); rintro e w1 ⟨rfl, rfl⟩) | fail)
    all_goals
      go_ret2
      exact ⟨rfl, rfl⟩
end Go.Proofs.YtflkemcoomgoiaaDoor
