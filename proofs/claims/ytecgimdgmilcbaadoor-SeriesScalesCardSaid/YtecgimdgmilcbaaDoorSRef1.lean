/- planimeterref12's shift, Right, Wide, Atanh by their contracts. Conditions: the numbers are short. -/
import Derived.Test.YtecgimdgmilcbaaDoorRefShr
import Derived.Test.YtecgimdgmilcbaaDoorAtLaw
namespace Go.Proofs.YtecgimdgmilcbaaDoor
set_option maxRecDepth 100000
open Go.RowKit Go.ChangeShapes Go.WideShapes
set_option linter.unusedVariables false

theorem rshift_n {w : World} {v : Value} {A n C : Nat} (h : RdD w v (digs DD A)) (e : A / 2 ^ n = C) (sA : bitN A ≤ 300000) (hn : n ≤ 9223372036854775807) :
    Calls Tryd.prog 43 #[v, .int .i64 n] w (OneD w (digs DD C)) := by
  subst e
  have HS := Lib.hid (rshr_n (n := n) h sA hn)
  unfold RShr at HS
  clear h
  go_enter Tryd.func43, Tryd.ntmps43
  go_wp2_with
  (first
    | (go_at_call 68; (with_reducible refine (HS.out).mono ?_); rintro e w1 ⟨vq1, rfl, q1, hb1⟩; have B1 := hb1)
    | fail)
  go_ret
  exact ⟨_, rfl, q1, B1⟩

theorem right_ok {w : World} {s : Nat} (h1 : 8 ≤ s) (h2 : s ≤ 9000) : Calls Tryd.prog 11 #[.int .i64 (s : Int)] w fun e w' => e = .returned (.bool true) ∧ w' = w := by
  have d1 : decide ((8 : Int) ≤ (s : Int)) = true := decide_eq_true (by omega)
  have d2 : decide ((s : Int) ≤ 9000) = true := decide_eq_true (by omega)
  go_enter Tryd.func11, Tryd.ntmps11
  go_wp2
  go_ret
  exact ⟨rfl, rfl⟩
theorem right_no {w : World} {s : Int} (h : s < 8 ∨ 9000 < s) : Calls Tryd.prog 11 #[.int .i64 s] w fun e w' => e = .returned (.bool false) ∧ w' = w := by
  by_cases h1 : s < 8
  · have d1 : decide ((8 : Int) ≤ s) = false := decide_eq_false (by omega)
    clear h
    go_enter Tryd.func11, Tryd.ntmps11
    go_wp2
    go_ret
    exact ⟨rfl, rfl⟩
  · have d1 : decide ((8 : Int) ≤ s) = true := decide_eq_true (by omega)
    have d2 : decide (s ≤ 9000) = false := decide_eq_false (by omega)
    clear h
    go_enter Tryd.func11, Tryd.ntmps11
    go_wp2
    go_ret
    exact ⟨rfl, rfl⟩
theorem rnum_k1 {w : World} : Calls Tryd.prog 23 #[.int .u64 1] w (OneD w (digs DD 1)) := num_any (n := 1) (by decide)
theorem rnum_wide {w : World} : Calls Tryd.prog 23 #[.int .u64 1048576] w (OneD w (digs DD 1048576)) := num_any (n := 1048576) (by decide)
theorem wide_n {w : World} : Calls Tryd.prog 25 #[] w (OneD w (digs DD 1048576)) := by
  go_enter Tryd.func25, Tryd.ntmps25
  go_wp2_with
  (first
    | (go_at_call 23; (with_reducible refine (rnum_wide).mono ?_); rintro e w1 ⟨vq1, rfl, q1, hb1⟩; have B1 := hb1)
    | fail)
  go_ret
  exact ⟨_, rfl, q1, B1⟩

theorem refH_size {R q M : Nat} (hR : 0 < R) (h : q ≤ R) : ∀ j, refH R q M j ≤ j * R
  | 0 => by simp [refH]
  | j + 1 => by
    have h1 := refH_size (M := M) hR h j
    have h2 : R / (2 * (M - j) + 1) ≤ R := Nat.div_le_self _ _
    have h3 : refH R q M j * q / R ≤ refH R q M j := Nat.div_le_of_le_mul (by rw [Nat.mul_comm R]; exact Nat.mul_le_mul_left _ h)
    rw [refH_succ, Nat.add_mul]
    omega
theorem bitN_le_pow {x n : Nat} (hx : x ≤ 8192 * 2 ^ n) : bitN x ≤ n + 14 := bitN_le.2 (by
  have := Nat.two_pow_pos n
  rw [Nat.pow_add]; omega)
end Go.Proofs.YtecgimdgmilcbaaDoor
