/- planimeterref13.Right by its contract. Conditions: the numbers are short. -/
import Derived.Test.YtflkemcoomgoiaaDoorLogB
import Derived.Test.YtflkemcoomgoiaaDoorRefE
import Derived.Test.YtflkemcoomgoiaaDoorLogTell
namespace Go.Proofs.YtflkemcoomgoiaaDoor
set_option maxRecDepth 100000
open Go.RowKit Go.ChangeShapes Go.WideShapes
set_option linter.unusedVariables false

end Go.Proofs.YtflkemcoomgoiaaDoor

/- planimeterref05.Add, Cmp by values; planimeterref13.Two, Off; chapter 13's of, minus. Conditions: the numbers are of a middle size. -/
namespace Go.Proofs.YtflkemcoomgoiaaDoor
set_option maxRecDepth 100000
open Go.RowKit Go.ChangeShapes Go.WideShapes
set_option linter.unusedVariables false

theorem RAdd_v {w : World} {u u2 : Value} {n1 n2 : Bool} {m1 m2 : Nat} {e1 e2 k : Int} (h : RdD w u (digs DD m1)) (h' : RdD w u2 (digs DD m2)) (ha : Mid k ⟨n1, m1, e1⟩) (hb : Mid k ⟨n2, m2, e2⟩) (hk : k ≤ 40000) (hk0 : 0 ≤ k) :
    Calls Tryd.prog 25 #[.agg #[.bool n1, u, .int .i64 e1], .agg #[.bool n2, u2, .int .i64 e2]] w (fun e w' => ∃ n m x v, e = .returned (.agg #[.bool n, v, .int .i64 x]) ∧ (qv ⟨n, m, x⟩ = qv ⟨n1, m1, e1⟩ + qv ⟨n2, m2, e2⟩ ∧ Mid (k + 1) ⟨n, m, x⟩) ∧ RdD w' v (digs DD m) ∧ Below w.heap.size w w') := by
  by_cases h0 : m1 = 0
  · subst h0
    refine (RAdd_zl (neg := n1) (neg2 := n2) (E := e1) (E2 := e2) h h').mono ?_
    rintro e w' ⟨v, rfl, r, hb'⟩
    exact ⟨n2, m2, e2, v, rfl, ⟨by rw [qv_zero (d := ⟨n1, 0, e1⟩) rfl, Rat.zero_add], hb.mono (by omega)⟩, r, hb'⟩
  · by_cases h1 : m2 = 0
    · subst h1
      refine (RAdd_zr (neg := n1) (neg2 := n2) (E := e1) (E2 := e2) h h' h0).mono ?_
      rintro e w' ⟨v, rfl, r, hb'⟩
      exact ⟨n1, m1, e1, v, rfl, ⟨by rw [qv_zero (d := ⟨n2, 0, e2⟩) rfl, Rat.add_zero], ha.mono (by omega)⟩, r, hb'⟩
    · have a1 := ha.1; have a2 := ha.2.1; have a3 := ha.2.2; have b1 := hb.1; have b2 := hb.2.1; have b3 := hb.2.2
      dsimp only at a1 a2 a3 b1 b2 b3
      refine (RAdd_n (neg := n1) (neg2 := n2) (E := e1) (E2 := e2) (low := min e1 e2) (s1 := (e1 - min e1 e2).toNat) (s2 := (e2 - min e1 e2).toNat) h h' h0 h1 rfl (by omega) (by omega) rfl rfl (by omega) (by omega) rfl).mono ?_
      rintro e w' ⟨v, rfl, r, hb'⟩
      exact ⟨_, _, _, v, rfl, ⟨qv_sum ⟨n1, m1, e1⟩ ⟨n2, m2, e2⟩, ha.sum hb⟩, r, hb'⟩
theorem RCmp_leq {w : World} {u u2 : Value} {n1 n2 : Bool} {m1 m2 : Nat} {e1 e2 k : Int} (h : RdD w u (digs DD m1)) (h' : RdD w u2 (digs DD m2)) (ha : Mid k ⟨n1, m1, e1⟩) (hb : Mid k ⟨n2, m2, e2⟩) (hk : k ≤ 50000) (hle : qv ⟨n1, m1, e1⟩ ≤ qv ⟨n2, m2, e2⟩) :
    Calls Tryd.prog 9 #[.agg #[.bool n1, u, .int .i64 e1], .agg #[.bool n2, u2, .int .i64 e2]] w (fun e w' => ∃ c : Int, e = .returned (.int .i64 c) ∧ decide (c ≤ 0) = true ∧ Below w.heap.size w w') := by
  have a1 := ha.nums
  have b1 := hb.nums
  refine (RCmp_n h h' (by omega) (by omega) (by omega) (by omega) (by omega) (by omega) rfl).mono ?_
  rintro e w' ⟨rfl, hb'⟩
  exact ⟨_, rfl, decide_eq_true (cmpD_le hle), hb'⟩
end Go.Proofs.YtflkemcoomgoiaaDoor

/- planimeterref13.Log by its contract. Conditions: the numbers are short. -/
namespace Go.Proofs.YtflkemcoomgoiaaDoor
set_option maxRecDepth 100000
open Go.RowKit Go.ChangeShapes Go.WideShapes
set_option linter.unusedVariables false

theorem refAt_bits {A B m : Nat} (hAB : A ≤ B) (hm : m ≤ 9080) : bitN (refAt A B (2 ^ m) (m / 3 + 2)) ≤ m + 14 := by
  have hT0 : 0 < 2 ^ m := Nat.two_pow_pos _
  have r1 : A * 2 ^ m / B ≤ 2 ^ m := Nat.div_le_of_le_mul (Nat.mul_le_mul_right _ hAB)
  have r2 : ∀ r, r ≤ 2 ^ m → refH (2 ^ m) (r * r / 2 ^ m) (m / 3 + 2) (m / 3 + 2 + 1) * r / 2 ^ m ≤ 8192 * 2 ^ m := fun r hr => by
    have q0 : r * r / 2 ^ m ≤ 2 ^ m := Nat.div_le_of_le_mul (Nat.mul_le_mul hr hr)
    have q1 := refH_size (M := m / 3 + 2) hT0 q0 (m / 3 + 2 + 1)
    refine Nat.le_trans (Nat.div_le_of_le_mul ?_) (Nat.le_trans q1 (Nat.mul_le_mul_right _ (by omega)))
    rw [Nat.mul_comm]; exact Nat.mul_le_mul_right _ hr
  unfold refAt
  exact Nat.le_trans (bitN_le_pow (r2 _ r1)) (by omega)

end Go.Proofs.YtflkemcoomgoiaaDoor
