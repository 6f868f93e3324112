/- Rational numbers: what the laws on sums use. Conditions: none. -/
import Derived.Test.YtflkemcoomgoiaaDoorDyG
namespace Go.Proofs.YtflkemcoomgoiaaDoor
set_option maxRecDepth 100000

theorem rq_mul_le {a b c d : Rat} (ha : 0 ≤ a) (hab : a ≤ b) (hc : 0 ≤ c) (hcd : c ≤ d) : a * c ≤ b * d :=
  Rat.le_trans (Rat.mul_le_mul_of_nonneg_right hab hc) (Rat.mul_le_mul_of_nonneg_left hcd (Rat.le_trans ha hab))
theorem rq_nat_nonneg (n : Nat) : (0 : Rat) ≤ (n : Rat) := by
  have := Rat.natCast_le_natCast.2 (Nat.zero_le n)
  simpa using this
theorem rq_nat_pos {n : Nat} (h : 0 < n) : (0 : Rat) < (n : Rat) := by
  have := Rat.natCast_lt_natCast.2 h
  simpa using this
theorem rq_le {a b : Nat} (h : a ≤ b) : (a : Rat) ≤ (b : Rat) := Rat.natCast_le_natCast.2 h
theorem rq_unle {a b : Nat} (h : (a : Rat) ≤ (b : Rat)) : a ≤ b := Rat.natCast_le_natCast.1 h
theorem rq_pow_nonneg {x : Rat} (h : 0 ≤ x) (n : Nat) : 0 ≤ x ^ n := Rat.pow_nonneg h
theorem rq_pow_mono {x y : Rat} (h : 0 ≤ x) (hy : x ≤ y) : ∀ n : Nat, x ^ n ≤ y ^ n
  | 0 => by simp
  | n + 1 => by
    rw [Rat.pow_succ, Rat.pow_succ]
    exact rq_mul_le (rq_pow_nonneg h n) (rq_pow_mono h hy n) h hy
theorem rq_pow_le_one {x : Rat} (h : 0 ≤ x) (hy : x ≤ 1) : ∀ n : Nat, x ^ n ≤ 1
  | 0 => by simp
  | n + 1 => by
    rw [Rat.pow_succ]
    have := rq_mul_le (rq_pow_nonneg h n) (rq_pow_le_one h hy n) h hy
    grind

/-- The quotient to above. -/
def cdiv (a b : Nat) : Nat := if a % b = 0 then a / b else a / b + 1
theorem cdiv_ge (a : Nat) {b : Nat} (hb : 0 < b) : a ≤ cdiv a b * b := by
  unfold cdiv
  have := Nat.div_add_mod a b
  have h2 := Nat.mod_lt a hb
  split
  · rw [Nat.mul_comm]; omega
  · rw [Nat.add_mul, Nat.mul_comm]; omega
theorem cdiv_lt (a : Nat) {b : Nat} (hb : 0 < b) : cdiv a b * b < a + b := by
  unfold cdiv
  have := Nat.div_add_mod a b
  have h2 := Nat.mod_lt a hb
  split
  · rw [Nat.mul_comm]; omega
  · rw [Nat.add_mul, Nat.mul_comm]; omega
theorem div_le' (a b : Nat) : a / b * b ≤ a := Nat.div_mul_le_self a b
theorem lt_div' (a : Nat) {b : Nat} (hb : 0 < b) : a < a / b * b + b := by
  have := Nat.div_add_mod a b
  have h2 := Nat.mod_lt a hb
  rw [Nat.mul_comm]; omega
theorem div_le_cdiv (a b : Nat) : a / b ≤ cdiv a b := by unfold cdiv; split <;> omega
theorem cdiv_le_of {a b c : Nat} (hb : 0 < b) (h : a ≤ c * b) : cdiv a b ≤ c := by
  have h1 := cdiv_lt a hb
  have h2 : cdiv a b * b < (c + 1) * b := by rw [Nat.add_mul]; omega
  have := Nat.lt_of_mul_lt_mul_right h2
  omega
theorem cdiv_zero (b : Nat) : cdiv 0 b = 0 := by simp [cdiv]
theorem cdiv_mono {a a' : Nat} (b : Nat) (hb : 0 < b) (h : a ≤ a') : cdiv a b ≤ cdiv a' b := cdiv_le_of hb (Nat.le_trans h (cdiv_ge a' hb))

theorem rq_div_le (a b : Nat) : ((a / b : Nat) : Rat) * (b : Rat) ≤ (a : Rat) := by
  have := rq_le (div_le' a b)
  rwa [Rat.natCast_mul] at this
theorem rq_lt_div (a : Nat) {b : Nat} (hb : 0 < b) : (a : Rat) ≤ ((a / b : Nat) : Rat) * (b : Rat) + (b : Rat) := by
  have := rq_le (Nat.le_of_lt (lt_div' a hb))
  rwa [Rat.natCast_add, Rat.natCast_mul] at this
theorem rq_cdiv_ge (a : Nat) {b : Nat} (hb : 0 < b) : (a : Rat) ≤ ((cdiv a b : Nat) : Rat) * (b : Rat) := by
  have := rq_le (cdiv_ge a hb)
  rwa [Rat.natCast_mul] at this
theorem rq_cdiv_lt (a : Nat) {b : Nat} (hb : 0 < b) : ((cdiv a b : Nat) : Rat) * (b : Rat) ≤ (a : Rat) + (b : Rat) := by
  have := rq_le (Nat.le_of_lt (cdiv_lt a hb))
  rwa [Rat.natCast_add, Rat.natCast_mul] at this
theorem rq_cancel {a b c : Rat} (hc : 0 < c) (h : a * c ≤ b * c) : a ≤ b := Rat.le_of_mul_le_mul_right h hc
theorem rq_inv (n : Nat) (hn : 0 < n) : ((n : Rat))⁻¹ * (n : Rat) = 1 := by
  have h := rq_nat_pos hn
  exact Rat.inv_mul_cancel _ (fun e => by rw [e] at h; exact Rat.lt_irrefl h)
theorem rq_inv_nonneg (n : Nat) : (0 : Rat) ≤ ((n : Rat))⁻¹ := by
  rcases Nat.eq_zero_or_pos n with rfl | hn
  · simp
  · have h := rq_inv n hn
    have hp := rq_nat_pos hn
    refine rq_cancel hp ?_
    rw [h]; grind
end Go.Proofs.YtflkemcoomgoiaaDoor

/- Dyads as rational numbers. Conditions: none. -/
namespace Go.Proofs.YtflkemcoomgoiaaDoor
set_option maxRecDepth 100000
set_option linter.unusedVariables false

/-- A power of two. -/
def pw (e : Int) : Rat := (2 : Rat) ^ e
theorem pw_pos (e : Int) : 0 < pw e := Rat.zpow_pos (by decide)
theorem pw_zero : pw 0 = 1 := Rat.zpow_zero 2
theorem pw_add (a b : Int) : pw (a + b) = pw a * pw b := Rat.zpow_add (by decide) a b
theorem pw_nat (k : Nat) : pw (k : Int) = ((2 ^ k : Nat) : Rat) := by
  show (2 : Rat) ^ ((k : Nat) : Int) = _
  rw [Rat.zpow_natCast, Rat.natCast_pow]
  rfl
theorem pw_neg (e : Int) : pw (-e) * pw e = 1 := by
  rw [← pw_add, show -e + e = 0 by omega, pw_zero]
theorem pw_one : pw 1 = 2 := by
  have := pw_nat 1
  exact this
theorem pw_mono {a b : Int} (h : a ≤ b) : pw a ≤ pw b := by
  obtain ⟨k, rfl⟩ : ∃ k : Nat, b = a + (k : Int) := ⟨(b - a).toNat, by omega⟩
  rw [pw_add, pw_nat]
  have h1 : ((1 : Nat) : Rat) ≤ ((2 ^ k : Nat) : Rat) := Rat.natCast_le_natCast.2 (Nat.one_le_two_pow)
  have h2 := Rat.mul_le_mul_of_nonneg_left h1 (Rat.le_of_lt (pw_pos a))
  rw [show ((1 : Nat) : Rat) = 1 from rfl, Rat.mul_one] at h2
  exact h2

/-- A dyad as a rational number. -/
def qv (d : Dn) : Rat := if d.neg then -((d.m : Rat) * pw d.e) else (d.m : Rat) * pw d.e
theorem qv_zero {d : Dn} (h : d.m = 0) : qv d = 0 := by
  unfold qv
  rw [h, show ((0 : Nat) : Rat) = 0 from rfl, Rat.zero_mul]
  split
  · rfl
  · rfl
theorem qv_pos {m : Nat} {e : Int} : qv ⟨false, m, e⟩ = (m : Rat) * pw e := rfl
theorem qv_neg {m : Nat} {e : Int} : qv ⟨true, m, e⟩ = -((m : Rat) * pw e) := rfl
theorem qv_bare {d : Dn} (h1 : -2147483648 ≤ d.e) (h2 : d.e ≤ 2147483648) : qv (bareD d) = qv d := by
  by_cases h0 : d.m = 0
  · rw [bareD_zero h0, qv_zero rfl, qv_zero h0]
  · rw [bareD_pos h0]
    obtain ⟨k, hk⟩ := low2_eq h0
    have hc : cutE d.e = d.e := by unfold cutE; omega
    have e : ((d.m / 2 ^ low2 d.m : Nat) : Rat) * pw (cutE d.e + (low2 d.m : Nat)) = (d.m : Rat) * pw d.e := by
      have h3 : d.m / 2 ^ low2 d.m * 2 ^ low2 d.m = d.m := by
        rw [odd_eq hk, Nat.mul_comm]; exact hk.symm
      rw [hc, pw_add, pw_nat]
      have h4 : ((d.m : Nat) : Rat) = ((d.m / 2 ^ low2 d.m : Nat) : Rat) * ((2 ^ low2 d.m : Nat) : Rat) := by
        rw [← Rat.natCast_mul, h3]
      generalize ((d.m / 2 ^ low2 d.m : Nat) : Rat) = a at *
      generalize ((2 ^ low2 d.m : Nat) : Rat) = b at *
      rw [h4]
      grind
    unfold qv
    dsimp only
    rw [e]
/-- A dyad as a number of units. -/
def sv (d : Dn) (z : Int) : Int := if d.neg then -((d.m * 2 ^ (d.e - z).toNat : Nat) : Int) else ((d.m * 2 ^ (d.e - z).toNat : Nat) : Int)
theorem qv_sv {d : Dn} {z : Int} (h : z ≤ d.e) : qv d = ((sv d z : Int) : Rat) * pw z := by
  have e : ((d.m * 2 ^ (d.e - z).toNat : Nat) : Rat) * pw z = (d.m : Rat) * pw d.e := by
    have h1 : d.e = ((d.e - z).toNat : Int) + z := by omega
    rw [Rat.natCast_mul, h1, pw_add, pw_nat, ← h1]
    grind
  unfold qv sv
  split
  · rw [Rat.intCast_neg]
    have : ((((d.m * 2 ^ (d.e - z).toNat : Nat) : Int)) : Rat) = ((d.m * 2 ^ (d.e - z).toNat : Nat) : Rat) := rfl
    rw [this, Rat.neg_mul, e]
  · have : ((((d.m * 2 ^ (d.e - z).toNat : Nat) : Int)) : Rat) = ((d.m * 2 ^ (d.e - z).toNat : Nat) : Rat) := rfl
    rw [this, e]
theorem cmpD_sv (a b : Dn) : cmpD a b = cmpI (sv a (min a.e b.e)) (sv b (min a.e b.e)) := by
  unfold cmpD sv signD cmpM cmpN cmpI
  obtain ⟨an, am, ae⟩ := a
  obtain ⟨bn, bm, be⟩ := b
  dsimp only
  have hA : am * 2 ^ (ae - min ae be).toNat = 0 ↔ am = 0 := by
    rw [Nat.mul_eq_zero]
    have := Nat.two_pow_pos (ae - min ae be).toNat
    omega
  have hB : bm * 2 ^ (be - min ae be).toNat = 0 ↔ bm = 0 := by
    rw [Nat.mul_eq_zero]
    have := Nat.two_pow_pos (be - min ae be).toNat
    omega
  generalize am * 2 ^ (ae - min ae be).toNat = A at *
  generalize bm * 2 ^ (be - min ae be).toNat = B at *
  by_cases ha : am = 0
  · have : A = 0 := hA.2 ha
    by_cases hb : bm = 0
    · have : B = 0 := hB.2 hb
      subst_vars
      cases an <;> cases bn <;> simp
    · have : B ≠ 0 := fun e => hb (hB.1 e)
      cases an <;> cases bn <;> simp [ha, hb] <;> (repeat' split) <;> omega
  · have : A ≠ 0 := fun e => ha (hA.1 e)
    by_cases hb : bm = 0
    · have : B = 0 := hB.2 hb
      cases an <;> cases bn <;> simp [ha, hb] <;> (repeat' split) <;> omega
    · have : B ≠ 0 := fun e => hb (hB.1 e)
      cases an <;> cases bn <;> simp [ha, hb] <;> (repeat' split) <;> omega
theorem cmpD_val (a b : Dn) : (qv a < qv b ∧ cmpD a b = -1) ∨ (qv a = qv b ∧ cmpD a b = 0) ∨ (qv b < qv a ∧ cmpD a b = 1) := by
  rw [cmpD_sv, qv_sv (d := a) (z := min a.e b.e) (by omega), qv_sv (d := b) (z := min a.e b.e) (by omega)]
  have hp := pw_pos (min a.e b.e)
  generalize pw (min a.e b.e) = p at *
  generalize sv a (min a.e b.e) = x
  generalize sv b (min a.e b.e) = y
  unfold cmpI
  rcases Int.lt_trichotomy x y with h | h | h
  · exact .inl ⟨Rat.mul_lt_mul_of_pos_right (Rat.intCast_lt_intCast.2 h) hp, by rw [if_pos h]⟩
  · exact .inr (.inl ⟨by rw [h], by rw [if_neg (by omega), if_neg (by omega)]⟩)
  · exact .inr (.inr ⟨Rat.mul_lt_mul_of_pos_right (Rat.intCast_lt_intCast.2 h) hp, by rw [if_neg (by omega), if_pos (by omega)]⟩)
theorem cmpD_le {a b : Dn} (h : qv a ≤ qv b) : cmpD a b ≤ 0 := by
  rcases cmpD_val a b with ⟨h1, h2⟩ | ⟨h1, h2⟩ | ⟨h1, h2⟩
  · omega
  · omega
  · exact absurd h (by grind)
theorem cmpD_ge {a b : Dn} (h : qv b ≤ qv a) : 0 ≤ cmpD a b := by
  rcases cmpD_val a b with ⟨h1, h2⟩ | ⟨h1, h2⟩ | ⟨h1, h2⟩
  · exact absurd h (by grind)
  · omega
  · omega
theorem cmpD_lt {a b : Dn} (h : qv a < qv b) : cmpD a b = -1 := by
  rcases cmpD_val a b with ⟨h1, h2⟩ | ⟨h1, h2⟩ | ⟨h1, h2⟩
  · exact h2
  · exact absurd h (by grind)
  · exact absurd h (by grind)
theorem cmpD_gt {a b : Dn} (h : qv b < qv a) : cmpD a b = 1 := by
  rcases cmpD_val a b with ⟨h1, h2⟩ | ⟨h1, h2⟩ | ⟨h1, h2⟩
  · exact absurd h (by grind)
  · exact absurd h (by grind)
  · exact h2
theorem le_cmpD {a b : Dn} (h : cmpD a b ≤ 0) : qv a ≤ qv b := by
  rcases cmpD_val a b with ⟨h1, h2⟩ | ⟨h1, h2⟩ | ⟨h1, h2⟩
  · exact Rat.le_of_lt h1
  · rw [h1]; exact Rat.le_refl
  · omega
theorem lt_cmpD {a b : Dn} (h : 0 < cmpD a b) : qv b < qv a := by
  rcases cmpD_val a b with ⟨h1, h2⟩ | ⟨h1, h2⟩ | ⟨h1, h2⟩
  · omega
  · omega
  · exact h1
theorem signD_val (d : Dn) : (qv d < 0 ∧ signD d = -1) ∨ (qv d = 0 ∧ signD d = 0) ∨ (0 < qv d ∧ signD d = 1) := by
  unfold signD
  by_cases h0 : d.m = 0
  · exact .inr (.inl ⟨qv_zero h0, by rw [if_pos h0]⟩)
  · rw [if_neg h0]
    have hp : 0 < (d.m : Rat) * pw d.e := Rat.mul_pos (rq_nat_pos (Nat.pos_of_ne_zero h0)) (pw_pos _)
    unfold qv
    cases d.neg
    · exact .inr (.inr ⟨hp, rfl⟩)
    · refine .inl ⟨?_, rfl⟩
      simp only [if_pos]
      grind
end Go.Proofs.YtflkemcoomgoiaaDoor
