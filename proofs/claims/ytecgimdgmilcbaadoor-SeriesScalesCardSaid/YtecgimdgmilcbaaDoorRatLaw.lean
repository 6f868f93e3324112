/- Rational numbers: what the laws on sums use. Conditions: none. -/

namespace Go.Proofs.YtecgimdgmilcbaaDoor
set_option maxRecDepth 100000

theorem rq_mul_le {a b c d : Rat} (ha : 0 ≤ a) (hab : a ≤ b) (hc : 0 ≤ c) (hcd : c ≤ d) : a * c ≤ b * d :=
  Rat.le_trans (Rat.mul_le_mul_of_nonneg_right hab hc) (Rat.mul_le_mul_of_nonneg_left hcd (Rat.le_trans ha hab))
theorem rq_nat_nonneg (n : Nat) : (0 : Rat) ≤ (n : Rat) := by
  have := Rat.natCast_le_natCast.2 (Nat.zero_le n)
  simpa using this
theorem rq_nat_pos {n : Nat} (h : 0 < n) : (0 : Rat) < (n : Rat) := by
  have := Rat.natCast_lt_natCast.2 h
  simpa using this
theorem rq_le {a b : Nat} (h : a ≤ b) : (a : Rat) ≤ (b : Rat) := Rat.natCast_le_natCast.2 h
theorem rq_unle {a b : Nat} (h : (a : Rat) ≤ (b : Rat)) : a ≤ b := Rat.natCast_le_natCast.1 h
theorem rq_pow_nonneg {x : Rat} (h : 0 ≤ x) (n : Nat) : 0 ≤ x ^ n := Rat.pow_nonneg h
theorem rq_pow_mono {x y : Rat} (h : 0 ≤ x) (hy : x ≤ y) : ∀ n : Nat, x ^ n ≤ y ^ n
  | 0 => by simp
  | n + 1 => by
    rw [Rat.pow_succ, Rat.pow_succ]
    exact rq_mul_le (rq_pow_nonneg h n) (rq_pow_mono h hy n) h hy
theorem rq_pow_le_one {x : Rat} (h : 0 ≤ x) (hy : x ≤ 1) : ∀ n : Nat, x ^ n ≤ 1
  | 0 => by simp
  | n + 1 => by
    rw [Rat.pow_succ]
    have := rq_mul_le (rq_pow_nonneg h n) (rq_pow_le_one h hy n) h hy
    grind

/-- The quotient to above. -/
def cdiv (a b : Nat) : Nat := if a % b = 0 then a / b else a / b + 1
theorem cdiv_ge (a : Nat) {b : Nat} (hb : 0 < b) : a ≤ cdiv a b * b := by
  unfold cdiv
  have := Nat.div_add_mod a b
  have h2 := Nat.mod_lt a hb
  split
  · rw [Nat.mul_comm]; omega
  · rw [Nat.add_mul, Nat.mul_comm]; omega
theorem cdiv_lt (a : Nat) {b : Nat} (hb : 0 < b) : cdiv a b * b < a + b := by
  unfold cdiv
  have := Nat.div_add_mod a b
  have h2 := Nat.mod_lt a hb
  split
  · rw [Nat.mul_comm]; omega
  · rw [Nat.add_mul, Nat.mul_comm]; omega
theorem div_le' (a b : Nat) : a / b * b ≤ a := Nat.div_mul_le_self a b
theorem lt_div' (a : Nat) {b : Nat} (hb : 0 < b) : a < a / b * b + b := by
  have := Nat.div_add_mod a b
  have h2 := Nat.mod_lt a hb
  rw [Nat.mul_comm]; omega
theorem div_le_cdiv (a b : Nat) : a / b ≤ cdiv a b := by unfold cdiv; split <;> omega
theorem cdiv_le_of {a b c : Nat} (hb : 0 < b) (h : a ≤ c * b) : cdiv a b ≤ c := by
  have h1 := cdiv_lt a hb
  have h2 : cdiv a b * b < (c + 1) * b := by rw [Nat.add_mul]; omega
  have := Nat.lt_of_mul_lt_mul_right h2
  omega
theorem cdiv_zero (b : Nat) : cdiv 0 b = 0 := by simp [cdiv]
theorem cdiv_mono {a a' : Nat} (b : Nat) (hb : 0 < b) (h : a ≤ a') : cdiv a b ≤ cdiv a' b := cdiv_le_of hb (Nat.le_trans h (cdiv_ge a' hb))

theorem rq_div_le (a b : Nat) : ((a / b : Nat) : Rat) * (b : Rat) ≤ (a : Rat) := by
  have := rq_le (div_le' a b)
  rwa [Rat.natCast_mul] at this
theorem rq_lt_div (a : Nat) {b : Nat} (hb : 0 < b) : (a : Rat) ≤ ((a / b : Nat) : Rat) * (b : Rat) + (b : Rat) := by
  have := rq_le (Nat.le_of_lt (lt_div' a hb))
  rwa [Rat.natCast_add, Rat.natCast_mul] at this
theorem rq_cdiv_ge (a : Nat) {b : Nat} (hb : 0 < b) : (a : Rat) ≤ ((cdiv a b : Nat) : Rat) * (b : Rat) := by
  have := rq_le (cdiv_ge a hb)
  rwa [Rat.natCast_mul] at this
theorem rq_cdiv_lt (a : Nat) {b : Nat} (hb : 0 < b) : ((cdiv a b : Nat) : Rat) * (b : Rat) ≤ (a : Rat) + (b : Rat) := by
  have := rq_le (Nat.le_of_lt (cdiv_lt a hb))
  rwa [Rat.natCast_add, Rat.natCast_mul] at this
theorem rq_cancel {a b c : Rat} (hc : 0 < c) (h : a * c ≤ b * c) : a ≤ b := Rat.le_of_mul_le_mul_right h hc
theorem rq_inv (n : Nat) (hn : 0 < n) : ((n : Rat))⁻¹ * (n : Rat) = 1 := by
  have h := rq_nat_pos hn
  exact Rat.inv_mul_cancel _ (fun e => by rw [e] at h; exact Rat.lt_irrefl h)
theorem rq_inv_nonneg (n : Nat) : (0 : Rat) ≤ ((n : Rat))⁻¹ := by
  rcases Nat.eq_zero_or_pos n with rfl | hn
  · simp
  · have h := rq_inv n hn
    have hp := rq_nat_pos hn
    refine rq_cancel hp ?_
    rw [h]; grind
end Go.Proofs.YtecgimdgmilcbaaDoor
