/- exact.size, shift by their contracts. Conditions: ints are int64s. -/
import Derived.Test.YtabdmnjdmnnejaaDoorDyC
import Derived.Test.YtabdmnjdmnnejaaDoorPwLaw
namespace Go.Proofs.YtabdmnjdmnnejaaDoor
set_option maxRecDepth 100000
open Go.RowKit Go.ChangeShapes Go.WideShapes
set_option linter.unusedVariables false

theorem esize_n {w : World} {n : Int} (h1 : -9223372036854775808 ≤ n) (h2 : n ≤ 9223372036854775807) :
    Calls Tryd.prog 51 #[.int .i64 n] w (fun e w' => e = .returned (L64 n.natAbs) ∧ w' = w) := by
  by_cases h0 : n < 0
  · have hd : decide (n < 0) = true := decide_eq_true h0
    have hw : IntKind.u64.wrap (-(IntKind.u64.wrap n)) = (n.natAbs : Int) := by rw [IntKind.wrap_u64, IntKind.wrap_u64]; omega
    go_enter Tryd.func51, Tryd.ntmps51
    go_wp2
    go_ret
    exact ⟨by simp, rfl⟩
  · have hd : decide (n < 0) = false := decide_eq_false h0
    have hw : IntKind.u64.wrap n = (n.natAbs : Int) := by rw [IntKind.wrap_u64]; omega
    go_enter Tryd.func51, Tryd.ntmps51
    go_wp2
    go_ret
    exact ⟨by simp, rfl⟩

theorem shift_n {w : World} {e m : Int} (h1 : -9223372036854775808 ≤ e) (h2 : e ≤ 9223372036854775807) (h3 : -9223372036854775808 ≤ m) (h4 : m ≤ 9223372036854775807) {r : Bool} (hr : decide (e.natAbs * m.natAbs ≤ 4096) = r) :
    Calls Tryd.prog 57 #[.int .i64 e, .int .i64 m] w (fun x w' => x = .returned (.tuple #[.int .i64 (if r then e * m else 0), .bool r]) ∧ w' = w) := by
  have hBB : BB = 18446744073709551616 := rfl
  have HM := Lib.hid (fun w => mul_named (show e.natAbs < BB by omega) (show m.natAbs < BB by omega) w)
  have HE := Lib.hid (fun w => esize_n (w := w) h1 h2)
  have HS := Lib.hid (fun w => esize_n (w := w) h3 h4)
  have hp : e * m = if (decide (e < 0)) = (decide (m < 0)) then ((e.natAbs * m.natAbs : Nat) : Int) else -((e.natAbs * m.natAbs : Nat) : Int) := by
    rw [Int.natCast_mul]
    by_cases a : e < 0
    · rw [decide_eq_true a]
      by_cases b : m < 0
      · rw [decide_eq_true b, if_pos rfl, show ((e.natAbs : Nat) : Int) = -e by omega, show ((m.natAbs : Nat) : Int) = -m by omega, Int.neg_mul_neg]
      · rw [decide_eq_false b, if_neg (by decide), show ((e.natAbs : Nat) : Int) = -e by omega, show ((m.natAbs : Nat) : Int) = m by omega, Int.neg_mul, Int.neg_neg]
    · rw [decide_eq_false a]
      by_cases b : m < 0
      · rw [decide_eq_true b, if_neg (by decide), show ((e.natAbs : Nat) : Int) = e by omega, show ((m.natAbs : Nat) : Int) = -m by omega, Int.mul_neg, Int.neg_neg]
      · rw [decide_eq_false b, if_pos rfl, show ((e.natAbs : Nat) : Int) = e by omega, show ((m.natAbs : Nat) : Int) = m by omega]
  have e1 := Nat.mod_add_div (e.natAbs * m.natAbs) BB
  change mLo e.natAbs m.natAbs + BB * mHi e.natAbs m.natAbs = e.natAbs * m.natAbs at e1
  rw [hBB] at e1
  generalize mLo e.natAbs m.natAbs = lo at *
  generalize mHi e.natAbs m.natAbs = hi at *
  generalize e.natAbs * m.natAbs = pr at *
  by_cases hfit : pr ≤ 4096
  · obtain rfl : hi = 0 := by omega
    obtain rfl : lo = pr := by omega
    have hrt : r = true := by rw [← hr]; exact decide_eq_true hfit
    subst hrt
    have d1 : decide ((4096 : Int) < (lo : Int)) = false := decide_eq_false (by omega)
    have wl : IntKind.i64.wrap (lo : Int) = (lo : Int) := by rw [IntKind.wrap_i64]; omega
    have wn : IntKind.i64.wrap (-(lo : Int)) = -(lo : Int) := by rw [IntKind.wrap_i64]; omega
    have hp' := Lib.hid hp
    clear hr hp e1
    obtain ⟨p, dp⟩ : ∃ p, decide (e < 0) = p := ⟨_, rfl⟩
    obtain ⟨q, dq⟩ : ∃ q, decide (m < 0) = q := ⟨_, rfl⟩
    cases p <;> cases q
    all_goals
      go_enter Tryd.func57, Tryd.ntmps57
      go_wp2_with (first
        | (go_at_call 51; (with_reducible refine (HE.out _).mono ?_); rintro e w1 ⟨rfl, rfl⟩)
        | (go_at_call 51; (with_reducible refine (HS.out _).mono ?_); rintro e w1 ⟨rfl, rfl⟩)
        | (go_at_call 81; ((with_reducible refine (HM.out _).mono ?_)); rintro e w1 ⟨rfl, rfl⟩)
        | fail)
      go_ret2
      refine ⟨?_, rfl⟩
      rw [hp'.out, dp, dq]
      simp
  · have hrf : r = false := by rw [← hr]; exact decide_eq_false hfit
    subst hrf
    by_cases h0 : hi = 0
    · subst h0
      have d1 : decide ((4096 : Int) < (lo : Int)) = true := decide_eq_true (by omega)
      clear hr hp
      go_enter Tryd.func57, Tryd.ntmps57
      go_wp2_with (first
        | (go_at_call 51; (with_reducible refine (HE.out _).mono ?_); rintro e w1 ⟨rfl, rfl⟩)
        | (go_at_call 51; (with_reducible refine (HS.out _).mono ?_); rintro e w1 ⟨rfl, rfl⟩)
        | (go_at_call 81; ((with_reducible refine (HM.out _).mono ?_)); rintro e w1 ⟨rfl, rfl⟩)
        | fail)
      all_goals
        go_ret2
        exact ⟨rfl, rfl⟩
    · have d1 : decide ((0 : Int) < (hi : Int)) = true := decide_eq_true (by omega)
      have d2 : decide (0 < hi) = true := decide_eq_true (by omega)
      clear hr hp
      go_enter Tryd.func57, Tryd.ntmps57
      go_wp2_with (first
        | (go_at_call 51; (with_reducible refine (HE.out _).mono ?_); rintro e w1 ⟨rfl, rfl⟩)
        | (go_at_call 51; (with_reducible refine (HS.out _).mono ?_); rintro e w1 ⟨rfl, rfl⟩)
        | (go_at_call 81; ((with_reducible refine (HM.out _).mono ?_)); rintro e w1 ⟨rfl, rfl⟩)
        | fail)
      all_goals
        go_ret2
        exact ⟨rfl, rfl⟩
end Go.Proofs.YtabdmnjdmnnejaaDoor
