/- planimeterlaw15.Of, Near by their contracts. Conditions: none. -/
import Derived.Test.YtflkemcoomgoiaaDoorBd8
namespace Go.Proofs.YtflkemcoomgoiaaDoor
set_option maxRecDepth 100000
open Go.RowKit Go.ChangeShapes Go.WideShapes

theorem of15_n {w : World} {b1 b2 : Bool} {a1 a2 : Option Addr} {n1 k1 n2 k2 : Nat} {E1 E2 : Int} :
    Calls Tryd.prog 11 #[.agg #[.bool b1, .slice a1 n1 k1, .int .i64 E1, .bool b2, .slice a2 n2 k2, .int .i64 E2]] w (fun e w' => e = .returned (.agg #[.bool b1, .slice a1 n1 k1, .int .i64 E1, .bool b2, .slice a2 n2 k2, .int .i64 E2]) ∧ Below w.heap.size w w') := by
  go_enter Tryd.func11, Tryd.ntmps11
  go_wp2
  all_goals
    refine bodyPost_ret (v := .agg #[.bool b1, .slice a1 n1 k1, .int .i64 E1, .bool b2, .slice a2 n2 k2, .int .i64 E2]) ?_ rfl ?_
    · simp [results, Tryd.results11, go_sem]
    · exact ⟨rfl, below_2⟩

def nearB (n : Nat) (E : Int) : Prop := n ≤ 10 ∧ -3000 ≤ E ∧ E ≤ 3000
set_option maxHeartbeats 2000000 in
theorem near15_n {w : World} {b1 b2 : Bool} {a1 a2 : Option Addr} {n1 k1 n2 k2 : Nat} {E1 E2 : Int} :
    Calls Tryd.prog 7 #[.agg #[.bool b1, .slice a1 n1 k1, .int .i64 E1, .bool b2, .slice a2 n2 k2, .int .i64 E2]] w (fun e w' => ∃ r, e = .returned (.bool r) ∧ (r = true → nearB n1 E1 ∧ nearB n2 E2) ∧ Below w.heap.size w w') := by
  go_enter Tryd.func7, Tryd.ntmps7
  go_wp2
  go_loop [4] (fun i => ∃ k : Nat, i = .int .i64 k ∧ k ≤ 2 ∧ (1 ≤ k → nearB n1 E1) ∧ (2 ≤ k → nearB n2 E2)) (fun i => 2 - (intOf i).toNat)
  case atStart => exact ⟨0, rfl, by omega, by omega, by omega⟩
  case round =>
    obtain ⟨k, rfl, hk, h1, h2⟩ := hrel
    rcases (show k = 0 ∨ k = 1 ∨ k = 2 by omega) with rfl | rfl | rfl
    · by_cases q1 : 10 < n1
      · have d1 : decide (10 < (n1 : Int)) = true := decide_eq_true (by omega)
        clear h1 h2 hk
        go_wp2_with fail
        all_goals
          go_ret
          exact .inl ⟨rfl, below_2⟩
      have d1 : decide (10 < (n1 : Int)) = false := decide_eq_false (by omega)
      by_cases q2 : E1 < -3000
      · have d2 : decide (E1 < -3000) = true := decide_eq_true q2
        clear h1 h2 hk
        go_wp2_with fail
        all_goals
          go_ret
          exact .inl ⟨rfl, below_2⟩
      have d2 : decide (E1 < -3000) = false := decide_eq_false q2
      by_cases q3 : 3000 < E1
      · have d3 : decide (3000 < E1) = true := decide_eq_true q3
        clear h1 h2 hk
        go_wp2_with fail
        all_goals
          go_ret
          exact .inl ⟨rfl, below_2⟩
      have d3 : decide (3000 < E1) = false := decide_eq_false q3
      have hn : nearB n1 E1 := ⟨by omega, by omega, by omega⟩
      have H1 := Lib.hid h1
      clear h1 h2 hk q1 q2 q3
      go_wp2_with fail
      go_round
      case rel => exact ⟨1, by go_num, by omega, fun _ => hn, fun h => absurd h (by omega)⟩
      case measure => simp [intOf]
    · by_cases q1 : 10 < n2
      · have d1 : decide (10 < (n2 : Int)) = true := decide_eq_true (by omega)
        clear h1 h2 hk
        go_wp2_with fail
        all_goals
          go_ret
          exact .inl ⟨rfl, below_2⟩
      have d1 : decide (10 < (n2 : Int)) = false := decide_eq_false (by omega)
      by_cases q2 : E2 < -3000
      · have d2 : decide (E2 < -3000) = true := decide_eq_true q2
        clear h1 h2 hk
        go_wp2_with fail
        all_goals
          go_ret
          exact .inl ⟨rfl, below_2⟩
      have d2 : decide (E2 < -3000) = false := decide_eq_false q2
      by_cases q3 : 3000 < E2
      · have d3 : decide (3000 < E2) = true := decide_eq_true q3
        clear h1 h2 hk
        go_wp2_with fail
        all_goals
          go_ret
          exact .inl ⟨rfl, below_2⟩
      have d3 : decide (3000 < E2) = false := decide_eq_false q3
      have hn : nearB n2 E2 := ⟨by omega, by omega, by omega⟩
      have H1 := Lib.hid h1
      clear h1 h2 hk q1 q2 q3
      go_wp2_with fail
      go_round
      case rel => exact ⟨2, by go_num, by omega, fun _ => H1.out (by omega), fun _ => hn⟩
      case measure => simp [intOf]
    · have hn1 := h1 (by omega)
      have hn2 := h2 (by omega)
      clear h1 h2 hk
      go_wp2_with fail
      all_goals
        go_ret
        exact ⟨.inr rfl, below_2⟩
end Go.Proofs.YtflkemcoomgoiaaDoor
