/- Whole roots: Newton's step never falls below the root, and falls above it; roots of roots. Conditions: none. -/
import Derived.Test.YtnoelffaccekjaaDoorBit
namespace Go.Proofs.YtnoelffaccekjaaDoor

/-- R is the k-th root of A, rounded down. -/
def IsRoot (A k R : Nat) : Prop := R ^ k ≤ A ∧ A < (R + 1) ^ k

theorem lt_of_pow {a b k : Nat} (h : a ^ k < b ^ k) : a < b := by
  rcases Nat.lt_or_ge a b with h1 | h1
  · exact h1
  · exact absurd h (Nat.not_lt.2 (Nat.pow_le_pow_left h1 k))
theorem pow_lt {a b k : Nat} (h : a < b) (hk : 0 < k) : a ^ k < b ^ k := Nat.pow_lt_pow_left h (by omega)
theorem pow_inj {a b k : Nat} (hk : 0 < k) (h : a ^ k = b ^ k) : a = b := by
  rcases Nat.lt_trichotomy a b with h1 | h1 | h1
  · have := pow_lt h1 hk; omega
  · exact h1
  · have := pow_lt h1 hk; omega

theorem IsRoot.le {A B k R S : Nat} (h : IsRoot A k R) (j : IsRoot B k S) (hab : A ≤ B) : R ≤ S :=
  Nat.le_of_lt_succ (lt_of_pow (Nat.lt_of_le_of_lt h.1 (Nat.lt_of_le_of_lt hab j.2)))
theorem IsRoot.uniq {A k R S : Nat} (h : IsRoot A k R) (j : IsRoot A k S) : R = S :=
  Nat.le_antisymm (h.le j (Nat.le_refl _)) (j.le h (Nat.le_refl _))
theorem IsRoot.exists {k : Nat} (hk : 0 < k) : ∀ A, ∃ R, IsRoot A k R
  | 0 => ⟨0, by rw [Nat.zero_pow hk]; exact Nat.le_refl _, by rw [Nat.zero_add, Nat.one_pow]; decide⟩
  | A + 1 => by
    obtain ⟨R, h1, h2⟩ := IsRoot.exists hk A
    by_cases h : (R + 1) ^ k ≤ A + 1
    · exact ⟨R + 1, h, by have := pow_lt (show R + 1 < R + 1 + 1 by omega) hk; omega⟩
    · exact ⟨R, by omega, by omega⟩
theorem IsRoot.zero {k : Nat} (hk : 0 < k) : IsRoot 0 k 0 := ⟨by rw [Nat.zero_pow hk]; exact Nat.le_refl _, by rw [Nat.zero_add, Nat.one_pow]; decide⟩
theorem IsRoot.one (A : Nat) : IsRoot A 1 A := ⟨by rw [Nat.pow_one]; exact Nat.le_refl _, by rw [Nat.pow_one]; omega⟩
theorem IsRoot.pow {a k : Nat} (hk : 0 < k) : IsRoot (a ^ k) k a := ⟨Nat.le_refl _, pow_lt (by omega) hk⟩
theorem IsRoot.small {A k : Nat} (h0 : A ≠ 0) (h : A < 2 ^ k) : IsRoot A k 1 := ⟨by rw [Nat.one_pow]; omega, h⟩
theorem IsRoot.nest {A m n X Y : Nat} (h : IsRoot A m X) (j : IsRoot X n Y) : IsRoot A (m * n) Y := by
  refine ⟨?_, ?_⟩
  · rw [Nat.mul_comm, Nat.pow_mul]
    exact Nat.le_trans (Nat.pow_le_pow_left j.1 m) h.1
  · rw [Nat.mul_comm, Nat.pow_mul]
    exact Nat.lt_of_lt_of_le h.2 (Nat.pow_le_pow_left (show X + 1 ≤ (Y + 1) ^ n from j.2) m)
theorem IsRoot.le_self {A k R : Nat} (hk : 0 < k) (h : IsRoot A k R) : R ≤ A := by
  have h1 : R ≤ R ^ k := by
    rcases Nat.eq_zero_or_pos R with rfl | h0
    · exact Nat.zero_le _
    · exact Nat.le_trans (by rw [Nat.pow_one]; exact Nat.le_refl _) (Nat.pow_le_pow_right (n := R) h0 (show 1 ≤ k from hk))
  exact Nat.le_trans h1 h.1

/-- Bernoulli's: of two that are whole. -/
theorem bern (R x : Nat) : ∀ m, (m + 1) * R * x ^ m ≤ R ^ (m + 1) + m * x ^ (m + 1)
  | 0 => by simp
  | m + 1 => by
    have ih := Nat.mul_le_mul_right x (bern R x m)
    have hr : R ^ (m + 1) * x + R * x ^ (m + 1) ≤ R ^ (m + 1) * R + x ^ (m + 1) * x := by
      rcases Nat.le_total R x with h | h
      · have h1 := Nat.pow_le_pow_left h (m + 1)
        obtain ⟨d, rfl⟩ := Nat.exists_eq_add_of_le h
        have h2 := Nat.mul_le_mul_right d h1
        rw [Nat.mul_add, Nat.mul_add, Nat.mul_comm R]
        omega
      · have h1 := Nat.pow_le_pow_left h (m + 1)
        obtain ⟨d, rfl⟩ := Nat.exists_eq_add_of_le h
        have h2 := Nat.mul_le_mul_right d h1
        rw [Nat.mul_add, Nat.add_mul, Nat.mul_comm x, Nat.mul_comm d]
        omega
    have e1 : (m + 1 + 1) * R * x ^ (m + 1) = (m + 1) * R * x ^ m * x + R * x ^ (m + 1) := by
      rw [Nat.mul_assoc ((m + 1) * R), ← Nat.pow_succ, Nat.succ_mul (m + 1) R, Nat.add_mul]
    have e2 : R ^ (m + 1 + 1) = R ^ (m + 1) * R := Nat.pow_succ ..
    have e3 : (m + 1) * x ^ (m + 1 + 1) = m * x ^ (m + 1) * x + x ^ (m + 1) * x := by
      rw [Nat.succ_mul, Nat.mul_assoc, ← Nat.pow_succ]
    rw [Nat.add_mul (R ^ (m + 1))] at ih
    omega

/-- Newton's step from x. -/
def newton (A m x : Nat) : Nat := (x * m + A / x ^ m) / (m + 1)
theorem newton_ge {A m R x : Nat} (h : IsRoot A (m + 1) R) (hx : 0 < x) : R ≤ newton A m x := by
  unfold newton
  rw [Nat.le_div_iff_mul_le (by omega)]
  by_cases hs : R * (m + 1) ≤ x * m
  · exact Nat.le_trans hs (Nat.le_add_right _ _)
  · obtain ⟨t, ht⟩ : ∃ t, R * (m + 1) = x * m + t := ⟨R * (m + 1) - x * m, by omega⟩
    rw [ht]
    refine Nat.add_le_add_left ?_ _
    rw [Nat.le_div_iff_mul_le (Nat.pow_pos hx)]
    have hb := bern R x m
    rw [Nat.mul_comm (m + 1) R, ht, Nat.add_mul, Nat.pow_succ x m] at hb
    have e : x * m * x ^ m = m * (x ^ m * x) := by rw [Nat.mul_comm x m, Nat.mul_assoc, Nat.mul_comm x]
    have := h.1
    omega
theorem newton_lt {A m R x : Nat} (h : IsRoot A (m + 1) R) (hx : R < x) : newton A m x < x := by
  unfold newton
  have hx0 : 0 < x := by omega
  have h1 : A < x ^ m * x := by
    rw [← Nat.pow_succ]
    exact Nat.lt_of_lt_of_le h.2 (Nat.pow_le_pow_left (show R + 1 ≤ x from hx) _)
  have h2 : A / x ^ m < x := by
    rw [Nat.div_lt_iff_lt_mul (Nat.pow_pos hx0), Nat.mul_comm]; exact h1
  rw [Nat.div_lt_iff_lt_mul (by omega), Nat.mul_add, Nat.mul_one]
  omega
/-- One more square root. -/
theorem IsRoot.sq {A C X j : Nat} (h : IsRoot A (2 ^ j) C) (k : IsRoot C 2 X) : IsRoot A (2 ^ (j + 1)) X := h.nest k
theorem pow_two_succ (X j : Nat) : X ^ 2 ^ (j + 1) = (X ^ 2) ^ 2 ^ j := by rw [← Nat.pow_mul, Nat.pow_succ, Nat.mul_comm]
theorem sq_exact {A C X j : Nat} (h : IsRoot A (2 ^ j) C) (k : IsRoot C 2 X) : X ^ 2 ^ (j + 1) = A ↔ C ^ 2 ^ j = A ∧ X ^ 2 = C := by
  have hp : 0 < 2 ^ j := Nat.pow_pos (by omega)
  rw [pow_two_succ]
  constructor
  · intro e
    have h1 := Nat.pow_le_pow_left k.1 (2 ^ j)
    have h2 := h.1
    have h3 : C ^ 2 ^ j = A := by omega
    exact ⟨h3, pow_inj hp (by rw [e, h3])⟩
  · rintro ⟨h1, h2⟩
    rw [h2, h1]
theorem small_pow {C n : Nat} (h : C ≤ 1) (hn : 0 < n) : C ^ n = C := by
  rcases Nat.eq_zero_or_pos C with rfl | h0
  · exact Nat.zero_pow hn
  · obtain rfl : C = 1 := by omega
    exact Nat.one_pow n
/-- 0 and 1 are their own roots. -/
theorem IsRoot.stay {A C j K : Nat} (h : IsRoot A (2 ^ j) C) (hC : C ≤ 1) (hj : j ≤ K) : IsRoot A (2 ^ K) C ∧ C ^ 2 ^ K = C ^ 2 ^ j := by
  have p1 : 0 < 2 ^ j := Nat.pow_pos (by omega)
  have p2 : 0 < 2 ^ K := Nat.pow_pos (by omega)
  have h1 := h.1
  rw [small_pow hC p1] at h1
  refine ⟨⟨by rw [small_pow hC p2]; exact h1, Nat.lt_of_lt_of_le h.2 (Nat.pow_le_pow_right (by omega) (Nat.pow_le_pow_right (by omega) hj))⟩, ?_⟩
  rw [small_pow hC p1, small_pow hC p2]
/-- Of how many square roots it is a whole number: as far as n. -/
def IsOrder (A M n : Nat) : Prop := n ≤ M ∧ ∀ k, k ≤ M → (k ≤ n ↔ ∃ c, c ^ 2 ^ k = A)
theorem root_down {A C j k : Nat} (h : C ^ 2 ^ j = A) (hk : k ≤ j) : ∃ c, c ^ 2 ^ k = A :=
  ⟨C ^ 2 ^ (j - k), by rw [← Nat.pow_mul, ← Nat.pow_add, show j - k + k = j by omega, h]⟩
theorem IsOrder.full {A C M : Nat} (h : C ^ 2 ^ M = A) : IsOrder A M M := ⟨Nat.le_refl _, fun _ hk => ⟨fun _ => root_down h hk, fun _ => hk⟩⟩
theorem IsOrder.stop {A C X j M : Nat} (h : C ^ 2 ^ j = A) (hj : j < M) (k : IsRoot C 2 X) (hn : X ^ 2 ≠ C) : IsOrder A M j := by
  refine ⟨Nat.le_of_lt hj, fun i hi => ⟨fun hij => root_down h hij, fun ⟨c, hc⟩ => ?_⟩⟩
  rcases Nat.lt_or_ge j i with h1 | h1
  · exfalso
    obtain ⟨t, rfl⟩ : ∃ t, i = j + 1 + t := ⟨i - j - 1, by omega⟩
    have e : ((c ^ 2 ^ t) ^ 2) ^ 2 ^ j = C ^ 2 ^ j := by
      rw [h, ← hc, ← Nat.pow_mul, ← Nat.pow_mul]
      congr 1
      rw [Nat.pow_add, Nat.pow_succ, Nat.mul_comm (2 ^ j * 2), Nat.mul_comm (2 ^ j)]
    have e2 := pow_inj (Nat.pow_pos (by omega)) e
    rw [← e2] at k
    have e3 := k.uniq (IsRoot.pow (by omega))
    rw [e3, e2] at hn
    exact hn rfl
  · exact h1
theorem IsOrder.one (M : Nat) : IsOrder 1 M M := IsOrder.full (Nat.one_pow _)
/-- Where Newton's step doesn't fall, the root is found. -/
theorem newton_done {A m R x : Nat} (h : IsRoot A (m + 1) R) (hx : R ≤ x) (hs : x ≤ newton A m x) : x = R := by
  rcases Nat.lt_or_eq_of_le hx with h1 | h1
  · have := newton_lt h h1; omega
  · exact h1.symm
/-- Newton's steps begin above the root. -/
theorem newton_start {A k R c : Nat} (h : IsRoot A k R) (hc : bitN A ≤ c * k) : R < 2 ^ c := by
  refine lt_of_pow (k := k) (Nat.lt_of_le_of_lt h.1 ?_)
  rw [← Nat.pow_mul]
  exact bitN_le.1 hc
end Go.Proofs.YtnoelffaccekjaaDoor
