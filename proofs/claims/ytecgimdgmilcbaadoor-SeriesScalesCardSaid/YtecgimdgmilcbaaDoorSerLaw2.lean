/- What SeriesAdds and SeriesScales ask of what is told, plainly. Conditions: none. -/
import Derived.Test.YtecgimdgmilcbaaDoorExOk
import Derived.Test.YtecgimdgmilcbaaDoorExpA
import Derived.Test.YtecgimdgmilcbaaDoorAtHolds
namespace Go.Proofs.YtecgimdgmilcbaaDoor
set_option maxRecDepth 100000
set_option linter.unusedVariables false

theorem adds_exp {X Y z L1 H1 L2 H2 L3 H3 : Nat} (o1 : ExOk X X z L1 H1) (o2 : ExOk Y Y z L2 H2) (o3 : ExOk (X + Y) (X + Y) z L3 H3) (hXY : X + Y ≤ 2 ^ z) : L1 * L2 ≤ H3 * 2 ^ z ∧ L3 * 2 ^ z ≤ H1 * H2 := by
  obtain ⟨x, hx, x0, x1⟩ := ex_of (A := X) (s := z)
  obtain ⟨y, hy, y0, y1⟩ := ex_of (A := Y) (s := z)
  have hp := rq_nat_pos (Nat.two_pow_pos z)
  have hxy : ((2 ^ z : Nat) : Rat) * (x + y) = ((X + Y : Nat) : Rat) := by rw [Rat.mul_add, hx, hy, Rat.natCast_add]
  have xy1 : x + y ≤ 1 := by
    refine rq_cancel hp ?_
    rw [Rat.mul_comm, hxy, Rat.one_mul]
    exact Rat.natCast_le_natCast.2 hXY
  have xy0 : 0 ≤ x + y := by grind
  have l1 := o1.lo x hx x0
  have l2 := o2.lo y hy y0
  have l3 := o3.lo (x + y) hxy xy0
  have h1 := o1.hi x hx x0 (x1 (by omega)) (z + 2)
  have h2 := o2.hi y hy y0 (y1 (by omega)) (z + 2)
  have h3 := o3.hi (x + y) hxy xy0 xy1 (z + 2 + (z + 2))
  have m1 := exA_mul_le x0 y0 (z + 2) (z + 2)
  have m2 := exA_le_mul x0 y0 (z + 2)
  have p1 := rq_mul_le (rq_nat_nonneg L1) l1 (rq_nat_nonneg L2) l2
  have p2 := rq_mul_le (Rat.mul_nonneg (Rat.le_of_lt hp) (exA_nonneg x0 (z + 2))) h1 (Rat.mul_nonneg (Rat.le_of_lt hp) (exA_nonneg y0 (z + 2))) h2
  generalize hS : ((2 ^ z : Nat) : Rat) = S at *
  generalize exA x (z + 2) = a at *
  generalize exA y (z + 2) = b at *
  constructor
  · refine Rat.natCast_le_natCast.1 ?_
    rw [Rat.natCast_mul, Rat.natCast_mul, hS]
    have q1 := Rat.mul_le_mul_of_nonneg_left m1 (Rat.mul_nonneg (Rat.le_of_lt hp) (Rat.le_of_lt hp))
    have q2 := Rat.mul_le_mul_of_nonneg_right h3 (Rat.le_of_lt hp)
    generalize exA (x + y) (z + 2 + (z + 2)) = c at *
    have e1 : S * a * (S * b) = S * S * (a * b) := by grind
    have e2 : S * S * c = S * c * S := by grind
    rw [e1] at p1
    rw [e2] at q1
    exact Rat.le_trans p1 (Rat.le_trans q1 q2)
  · refine Rat.natCast_le_natCast.1 ?_
    rw [Rat.natCast_mul, Rat.natCast_mul, hS]
    have q1 := Rat.mul_le_mul_of_nonneg_right l3 (Rat.le_of_lt hp)
    have q2 := Rat.mul_le_mul_of_nonneg_left m2 (Rat.mul_nonneg (Rat.le_of_lt hp) (Rat.le_of_lt hp))
    generalize exA (x + y) (z + 2) = c at *
    have e1 : S * a * (S * b) = S * S * (a * b) := by grind
    have e2 : S * S * c = S * c * S := by grind
    rw [e1] at p2
    rw [e2] at q2
    exact Rat.le_trans q1 (Rat.le_trans q2 p2)

theorem at_of {A B : Nat} (hB : 0 < B) (h3 : 3 * A ≤ B) : ∃ x : Rat, x * (B : Rat) = (A : Rat) ∧ 0 ≤ x ∧ 3 * x ≤ 1 := by
  have hBp := rq_nat_pos hB
  have hx : (A : Rat) * (B : Rat)⁻¹ * (B : Rat) = (A : Rat) := by
    rw [Rat.mul_assoc, Rat.inv_mul_cancel _ (by grind), Rat.mul_one]
  refine ⟨(A : Rat) * (B : Rat)⁻¹, hx, Rat.mul_nonneg (rq_nat_nonneg A) (rq_inv_nonneg B), ?_⟩
  refine rq_cancel hBp ?_
  rw [Rat.mul_assoc, hx, Rat.one_mul]
  have : ((3 * A : Nat) : Rat) ≤ (B : Rat) := Rat.natCast_le_natCast.2 h3
  rw [Rat.natCast_mul] at this
  exact this
theorem atA_grow {x y : Rat} (h0 : 0 ≤ x) (h : x ≤ y) : ∀ K, atA x K ≤ atA y K
  | 0 => Rat.le_refl
  | K + 1 => by
    have h1 := atA_grow h0 h K
    have h2 := Rat.mul_le_mul_of_nonneg_right (rq_pow_mono h0 h (2 * K + 1)) (rq_inv_nonneg (2 * K + 1))
    rw [atA_succ, atA_succ]
    generalize x ^ (2 * K + 1) * ((2 * K + 1 : Nat) : Rat)⁻¹ = p at *
    generalize y ^ (2 * K + 1) * ((2 * K + 1 : Nat) : Rat)⁻¹ = q at *
    generalize atA x K = u at *
    generalize atA y K = v at *
    grind
theorem at_mono {A A' B z L H L' H' : Nat} (o : AtOk A B z L H) (o' : AtOk A' B z L' H') (h : A ≤ A') (hB : 0 < B) (h3 : 3 * A' ≤ B) : L ≤ H' := by
  obtain ⟨x, hx, x0, x1⟩ := at_of hB (show 3 * A ≤ B by omega)
  obtain ⟨y, hy, y0, y1⟩ := at_of hB h3
  have hxy : x ≤ y := rq_cancel (rq_nat_pos hB) (by rw [hx, hy]; exact Rat.natCast_le_natCast.2 h)
  have a1 := o.lo x hx x0
  have a2 := o'.hi y hy y0 y1 z
  have a3 := Rat.mul_le_mul_of_nonneg_left (atA_grow x0 hxy z) (rq_nat_nonneg (2 ^ z))
  exact Rat.natCast_le_natCast.1 (Rat.le_trans a1 (Rat.le_trans a3 a2))
theorem at_scales {A B i m a b c d : Nat} (o : AtOk A B i a b) (o' : AtOk A B (i + m) c d) (hB : 0 < B) (h3 : 3 * A ≤ B) : a * 2 ^ m ≤ d ∧ c ≤ b * 2 ^ m := by
  obtain ⟨x, hx, x0, x1⟩ := at_of hB h3
  have e : ((2 ^ (i + m) : Nat) : Rat) = ((2 ^ i : Nat) : Rat) * ((2 ^ m : Nat) : Rat) := by rw [Nat.pow_add, Rat.natCast_mul]
  have m0 := rq_nat_nonneg (2 ^ m)
  constructor
  · have a1 := Rat.mul_le_mul_of_nonneg_right (o.lo x hx x0) m0
    have a2 := o'.hi x hx x0 x1 i
    refine Rat.natCast_le_natCast.1 ?_
    rw [Rat.natCast_mul]
    rw [e] at a2
    generalize ((2 ^ i : Nat) : Rat) = S at *
    generalize ((2 ^ m : Nat) : Rat) = M at *
    have e2 : S * M * atA x i = S * atA x i * M := by grind
    rw [e2] at a2
    exact Rat.le_trans a1 a2
  · have a1 := o'.lo x hx x0
    have a2 := Rat.mul_le_mul_of_nonneg_right (o.hi x hx x0 x1 (i + m)) m0
    refine Rat.natCast_le_natCast.1 ?_
    rw [Rat.natCast_mul]
    rw [e] at a1
    generalize ((2 ^ i : Nat) : Rat) = S at *
    generalize ((2 ^ m : Nat) : Rat) = M at *
    have e2 : S * M * atA x (i + m) = S * atA x (i + m) * M := by grind
    rw [e2] at a1
    exact Rat.le_trans a1 a2
/-- The document's atanh, by its own bounds. -/
theorem refAt_near {A B n : Nat} {x : Rat} (hB : 0 < B) (hx : x * (B : Rat) = (A : Rat)) (x0 : 0 ≤ x) (x1 : 3 * x ≤ 1) (K : Nat) :
    ((2 ^ n : Nat) : Rat) * atA x K ≤ ((refAt A B (2 ^ n) (n / 3 + 2) : Nat) : Rat) + 8 := by
  have hT : 0 < 2 ^ n := Nat.two_pow_pos _
  have r2 := refAt_ge (M := n / 3 + 2) hT hB hx x0 x1
  have t1 := atA_tail x0 x1 (n / 3 + 2 + 1) K
  obtain ⟨p0, p1⟩ := pow_eighth x0 x1 (n / 3 + 2 + 1)
  have hT8 : ((2 ^ n : Nat) : Rat) ≤ ((8 ^ (n / 3 + 2 + 1) : Nat) : Rat) := Rat.natCast_le_natCast.2 (by
    rw [show (8 : Nat) = 2 ^ 3 from rfl, ← Nat.pow_mul]; exact Nat.pow_le_pow_right (by omega) (by omega))
  have g1 : ((2 ^ n : Nat) : Rat) * x ^ (2 * (n / 3 + 2 + 1) + 1) ≤ 1 := Rat.le_trans (Rat.mul_le_mul_of_nonneg_right hT8 p0) p1
  have a3 := Rat.mul_le_mul_of_nonneg_left t1 (rq_nat_nonneg (2 ^ n))
  generalize ((2 ^ n : Nat) : Rat) = T at *
  generalize x ^ (2 * (n / 3 + 2 + 1) + 1) = p at *
  generalize atA x K = u at *
  generalize atA x (n / 3 + 2 + 1) = v at *
  generalize ((refAt A B (2 ^ n) (n / 3 + 2) : Nat) : Rat) = R at *
  have e6 : T * (v + 2 * p) = T * v + 2 * (T * p) := by grind
  rw [e6] at a3
  generalize T * p = tp at *
  generalize T * v = tv at *
  generalize T * u = tu at *
  grind
theorem at_twice {L E R : Nat} (h : L * E ≤ R + 8) : (L + L) * E ≤ R * 2 + 1048576 := by
  rw [Nat.add_mul]; omega
theorem at_holds2 {A B s L H : Nat} (h : AtOk A B s L H) (hB : 0 < B) (h3 : 3 * A ≤ B) :
    (L + L) * 2 ^ 80 ≤ refAt A B (2 ^ (s + 80)) ((s + 80) / 3 + 2) * 2 + 1048576 ∧ refAt A B (2 ^ (s + 80)) ((s + 80) / 3 + 2) * 2 ≤ (H + H) * 2 ^ 80 := by
  obtain ⟨x, hx, x0, x1⟩ := at_of hB h3
  have h2 := (at_holds h hB h3).2
  refine ⟨?_, by rw [Nat.add_mul]; generalize H * 2 ^ 80 = p at *; generalize refAt A B (2 ^ (s + 80)) ((s + 80) / 3 + 2) = R at *; omega⟩
  have hn := refAt_near (n := s + 80) hB hx x0 x1 s
  have l1 := Rat.mul_le_mul_of_nonneg_right (h.lo x hx x0) (rq_nat_nonneg (2 ^ 80))
  have e : ((2 ^ (s + 80) : Nat) : Rat) = ((2 ^ s : Nat) : Rat) * ((2 ^ 80 : Nat) : Rat) := by rw [Nat.pow_add, Rat.natCast_mul]
  have e1 : ((2 ^ s : Nat) : Rat) * atA x s * ((2 ^ 80 : Nat) : Rat) = ((2 ^ (s + 80) : Nat) : Rat) * atA x s := by
    rw [e]
    generalize ((2 ^ s : Nat) : Rat) = p
    generalize ((2 ^ 80 : Nat) : Rat) = q
    grind
  rw [e1] at l1
  have k : L * 2 ^ 80 ≤ refAt A B (2 ^ (s + 80)) ((s + 80) / 3 + 2) + 8 := by
    refine Rat.natCast_le_natCast.1 ?_
    rw [Rat.natCast_mul, Rat.natCast_add]
    exact Rat.le_trans l1 hn
  exact at_twice k
end Go.Proofs.YtecgimdgmilcbaaDoor
