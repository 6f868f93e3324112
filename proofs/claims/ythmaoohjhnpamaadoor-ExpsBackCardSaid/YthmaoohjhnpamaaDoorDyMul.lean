/- dyad.Add, Minus, Mul by their results' values. Conditions: the numbers are of a middle size; math/bits' table stands in its variable. -/
import Derived.Test.YthmaoohjhnpamaaDoorDyC
import Derived.Test.YthmaoohjhnpamaaDoorValG
import Derived.Test.YthmaoohjhnpamaaDoorSerC
namespace Go.Proofs.YthmaoohjhnpamaaDoor
set_option maxRecDepth 100000
open Go.RowKit Go.ChangeShapes Go.WideShapes
set_option linter.unusedVariables false

theorem Add_v {w : World} {u u2 : Value} {n1 n2 : Bool} {m1 m2 : Nat} {e1 e2 k : Int} (h : Num w u m1) (h' : Num w u2 m2) (hT : Tab w) (ha : Mid k ⟨n1, m1, e1⟩) (hb : Mid k ⟨n2, m2, e2⟩) (hk : k ≤ 30000) (hk0 : 0 ≤ k) :
    Calls Tryd.prog 8 #[.agg #[.bool n1, u, .int .i64 e1], .agg #[.bool n2, u2, .int .i64 e2]] w (fun e w' => ∃ n m x v, e = .returned (.tuple #[.agg #[.bool n, v, .int .i64 x], .int .i64 0]) ∧ (qv ⟨n, m, x⟩ = qv ⟨n1, m1, e1⟩ + qv ⟨n2, m2, e2⟩ ∧ Mid (k + 1) ⟨n, m, x⟩ ∧ bareD ⟨n, m, x⟩ = ⟨n, m, x⟩) ∧ RdN w' v (digs BB m) ∧ Below w.heap.size w w') := by
  obtain ⟨⟨n, m, x⟩, q, v1, v2, v3, -⟩ := addQ_val ha hb hk hk0
  have a1 := ha.1; have a2 := ha.2.1; have b1 := hb.1; have b2 := hb.2.1
  dsimp only at a1 a2 b1 b2
  refine (Add_n h h' hT (by omega) (by omega) (by omega) (by omega) q).mono ?_
  rintro e w' ⟨v, rfl, r, hb⟩
  exact ⟨n, m, x, v, rfl, ⟨v1, v2, v3⟩, r, hb⟩
theorem qv_minus (n : Bool) (m : Nat) (e : Int) : qv ⟨!n, m, e⟩ = -qv ⟨n, m, e⟩ := by
  cases n
  · rfl
  · show (m : Rat) * pw e = - -((m : Rat) * pw e)
    grind
theorem bareD_zeroM {n n' : Bool} {M M' : Nat} {E E' : Int} (e : bareD ⟨n, M, E⟩ = ⟨n', M', E'⟩) (h : M' = 0) : n' = false ∧ E' = 0 := by
  have h0 : M = 0 := by
    have := bareD_m_zero ⟨n, M, E⟩
    rw [e] at this
    exact this.1 h
  rw [bareD_zero h0] at e
  injection e with e1 e2 e3
  exact ⟨e1.symm, e3.symm⟩
theorem qv_mul (n1 n2 : Bool) (m1 m2 : Nat) (e1 e2 : Int) : qv ⟨n1 != n2, m1 * m2, e1 + e2⟩ = qv ⟨n1, m1, e1⟩ * qv ⟨n2, m2, e2⟩ := by
  unfold qv
  rw [Rat.natCast_mul, pw_add]
  generalize pw e1 = a
  generalize pw e2 = b
  cases n1 <;> cases n2 <;> simp <;> grind
theorem Mid.mul {k : Int} {n1 n2 n : Bool} {m1 m2 : Nat} {e1 e2 : Int} (ha : Mid k ⟨n1, m1, e1⟩) (hb : Mid k ⟨n2, m2, e2⟩) : Mid (k + k) ⟨n, m1 * m2, e1 + e2⟩ := by
  obtain ⟨a1, a2, a3⟩ := ha
  obtain ⟨b1, b2, b3⟩ := hb
  have h := bitN_mul_le m1 m2
  dsimp only at *
  refine ⟨?_, ?_, ?_⟩
  · show -(k + k) ≤ e1 + e2; omega
  · show e1 + e2 ≤ k + k; omega
  · show (bitN (m1 * m2) : Int) + (e1 + e2) ≤ k + k; omega
end Go.Proofs.YthmaoohjhnpamaaDoor
