/- logs.Log by its interval alone; small dyads. Conditions: the numbers are short; math/bits' table stands in its variable. -/
import Derived.Test.YtflkemcoomgoiaaDoorLogB
import Derived.Test.YtflkemcoomgoiaaDoorDyMul
namespace Go.Proofs.YtflkemcoomgoiaaDoor
set_option maxRecDepth 100000
open Go.RowKit Go.ChangeShapes Go.WideShapes
set_option linter.unusedVariables false

theorem near_small {m : Nat} {e : Int} (h0 : m ≠ 0) (hm : bitN m ≤ 4000) (h1 : -1000000 ≤ e) (h2 : e ≤ 1000000) : nearOk ⟨false, m, e⟩ = true := by
  obtain ⟨⟨n', M', E'⟩, q⟩ : ∃ d, bareD ⟨false, m, e⟩ = d := ⟨_, rfl⟩
  obtain ⟨hf, r1, r2⟩ := bareD_fits q (by omega) (by omega) (by omega)
  have hb := bareD_bits q
  have hl := bitN_low2 h0
  unfold nearOk
  rw [q]
  rw [bareD_pos (show (⟨false, m, e⟩ : Dn).m ≠ 0 from h0)] at q
  injection q with q1 q2 q3
  dsimp only at q1 q2 q3
  subst q1
  have hM : M' ≠ 0 := fun e => by
    obtain ⟨k, hk⟩ := low2_eq h0
    have := odd_eq hk
    omega
  have hc : cutE e = e := by unfold cutE; omega
  have hmp : bitN m ≠ 0 := fun e => h0 (eq_zero_of_bitN e)
  have ht : topD ⟨false, M', E'⟩ = (bitN m : Int) - 1 + e := by
    unfold topD
    dsimp only
    rw [← q2, ← q3, hc]
    omega
  rw [ht]
  simp only [Bool.and_eq_true, decide_eq_true_eq, Bool.not_eq_true']
  exact ⟨⟨⟨⟨⟨hf, trivial⟩, hM⟩, by omega⟩, by omega⟩, by omega⟩
theorem pos_parts {n : Bool} {m : Nat} {e : Int} (h : 0 < qv ⟨n, m, e⟩) : n = false ∧ m ≠ 0 := by
  have h0 : m ≠ 0 := fun e => by
    subst e
    rw [qv_zero rfl] at h
    exact Rat.lt_irrefl h
  refine ⟨?_, h0⟩
  cases n
  · rfl
  · exfalso
    have hp : 0 < (m : Rat) * pw e := Rat.mul_pos (rq_nat_pos (Nat.pos_of_ne_zero h0)) (pw_pos _)
    have : qv ⟨true, m, e⟩ = -((m : Rat) * pw e) := rfl
    rw [this] at h
    grind
/-- dyad.Sign, by the value. -/
theorem Sign_ge {w : World} {v : Value} {n : Bool} {m : Nat} {e : Int} (h : Num w v m) (hq : 0 ≤ qv ⟨n, m, e⟩) : Calls Tryd.prog 14 #[.agg #[.bool n, v, .int .i64 e]] w (fun r w' => ∃ s : Int, r = .returned (.int .i64 s) ∧ decide (0 ≤ s) = true ∧ Below w.heap.size w w') := by
  refine (Sign_n h rfl).mono ?_
  rintro r w' ⟨rfl, hb⟩
  refine ⟨_, rfl, decide_eq_true ?_, hb⟩
  rcases signD_val ⟨n, m, e⟩ with ⟨h1, h2⟩ | ⟨h1, h2⟩ | ⟨h1, h2⟩
  · exfalso; grind
  · omega
  · omega
theorem Sign_le {w : World} {v : Value} {n : Bool} {m : Nat} {e : Int} (h : Num w v m) (hq : qv ⟨n, m, e⟩ ≤ 0) : Calls Tryd.prog 14 #[.agg #[.bool n, v, .int .i64 e]] w (fun r w' => ∃ s : Int, r = .returned (.int .i64 s) ∧ decide (s ≤ 0) = true ∧ Below w.heap.size w w') := by
  refine (Sign_n h rfl).mono ?_
  rintro r w' ⟨rfl, hb⟩
  refine ⟨_, rfl, decide_eq_true ?_, hb⟩
  rcases signD_val ⟨n, m, e⟩ with ⟨h1, h2⟩ | ⟨h1, h2⟩ | ⟨h1, h2⟩
  · omega
  · omega
  · exfalso; grind
end Go.Proofs.YtflkemcoomgoiaaDoor
