/- When a power is exact, plainly. -/
import Derived.Test.YtabdmnjdmnnejaaDoorDyG
namespace Go.Proofs.YtabdmnjdmnnejaaDoor
set_option maxRecDepth 100000

/-- Is M times 2^E (M odd) a breakpoint? -/
def isBrk (M : Nat) (E : Int) : Bool :=
  if 1023 < topD ⟨false, M, E⟩ then decide (E = 1024) && decide (bitN M = 1) else decide (max (topD ⟨false, M, E⟩ - 52) (-1074) - 1 ≤ E)
/-- P times 2^F is what r times 2^f is to the power m. -/
def Raise (r : Nat) (f m : Int) (P : Nat) (F : Int) : Prop := F = f * m ∧ (0 ≤ m ∧ P = r ^ m.toNat ∨ m < 0 ∧ r = 1 ∧ P = 1)
/-- What is told of M times 2^E to the power m divided by k (in lowest terms). -/
def PowR (M : Nat) (E m k : Int) (ok : Bool) (P : Nat) (F : Int) : Prop :=
  (m = 0 ∧ ok = true ∧ P = 1 ∧ F = 0) ∨
  (m ≠ 0 ∧ ok = true ∧ isBrk P F = true ∧ P % 2 = 1 ∧ ∃ r f, r ^ k.toNat = M ∧ f * k = E ∧ Raise r f m P F) ∨
  (m ≠ 0 ∧ ok = false ∧ P = 0 ∧ F = 0 ∧ ∀ r f P F, r ^ k.toNat = M → f * k = E → Raise r f m P F → isBrk P F = false)
theorem brk_range {M : Nat} {E : Int} (h0 : M ≠ 0) (h : isBrk M E = true) : -1075 ≤ E ∧ E ≤ 1024 := by
  have hb : bitN M ≠ 0 := fun e => h0 (by have := bitN_lt M; rw [e] at this; omega)
  unfold isBrk topD at h
  dsimp only at h
  split at h
  · simp at h
    omega
  · have := of_decide_eq_true h
    omega
theorem brk_bits {M : Nat} {E : Int} (h0 : M ≠ 0) (h : isBrk M E = true) : bitN M ≤ 54 := by
  have hb : bitN M ≠ 0 := fun e => h0 (by have := bitN_lt M; rw [e] at this; omega)
  unfold isBrk topD at h
  dsimp only at h
  split at h
  · simp at h
    omega
  · have := of_decide_eq_true h
    omega
theorem bitN_pow2 (m : Nat) : bitN (2 ^ m) = m + 1 := by
  have h1 : bitN (2 ^ m) ≤ m + 1 := bitN_le.2 (Nat.pow_lt_pow_right (by omega) (by omega))
  rcases Nat.lt_or_ge (bitN (2 ^ m)) (m + 1) with h | h
  · exact absurd (bitN_le.1 (show bitN (2 ^ m) ≤ m by omega)) (Nat.lt_irrefl _)
  · omega
theorem bits_pow_ge {r m : Nat} (h : 3 ≤ r) : m + 1 ≤ bitN (r ^ m) := by
  have h1 : 2 ^ m ≤ r ^ m := Nat.pow_le_pow_left (by omega) m
  have h2 := bitN_mono h1
  have h3 : bitN (2 ^ m) = m + 1 := bitN_pow2 m
  omega
/-- Where a to the m is b to the k, and nothing divides m and k, both are powers of one number. -/
theorem pow_common : ∀ (n m k a b : Nat), m + k ≤ n → Nat.gcd m k = 1 → a ^ m = b ^ k → ∃ r, a = r ^ k ∧ b = r ^ m
  | 0, m, k, a, b, hn, hg, _ => by
    obtain rfl : m = 0 := by omega
    obtain rfl : k = 0 := by omega
    exact absurd hg (by decide)
  | n + 1, m, k, a, b, hn, hg, h => by
    by_cases hm : m = 0
    · subst hm
      rw [Nat.gcd_zero_left] at hg
      subst hg
      exact ⟨a, by rw [Nat.pow_one], by rw [Nat.pow_zero] at h ⊢; rw [Nat.pow_one] at h; exact h.symm⟩
    by_cases hk : k = 0
    · subst hk
      rw [Nat.gcd_zero_right] at hg
      subst hg
      exact ⟨b, by rw [Nat.pow_zero] at h ⊢; rw [Nat.pow_one] at h; exact h, by rw [Nat.pow_one]⟩
    by_cases ha : a = 0
    · subst ha
      rw [Nat.zero_pow (by omega)] at h
      have hb : b = 0 := Nat.eq_zero_of_not_pos (fun hp => by have := Nat.pow_pos (n := k) hp; omega)
      exact ⟨0, by rw [Nat.zero_pow (by omega)], by rw [hb, Nat.zero_pow (by omega)]⟩
    by_cases hb : b = 0
    · subst hb
      rw [Nat.zero_pow (by omega)] at h
      exact absurd h (Nat.ne_of_gt (Nat.pow_pos (Nat.pos_of_ne_zero ha)))
    rcases Nat.le_total k m with hle | hle
    · have hd : a ^ k ∣ b ^ k := by rw [← h]; exact Nat.pow_dvd_pow a hle
      obtain ⟨c, rfl⟩ := (Nat.pow_dvd_pow_iff (by omega)).1 hd
      have h2 : a ^ (m - k) = c ^ k := by
        rw [Nat.mul_pow] at h
        have h3 : a ^ k * a ^ (m - k) = a ^ m := by rw [← Nat.pow_add]; congr 1; omega
        rw [← h3] at h
        exact Nat.eq_of_mul_eq_mul_left (Nat.pow_pos (Nat.pos_of_ne_zero ha)) h
      have hg2 : Nat.gcd (m - k) k = 1 := by
        rw [← hg]
        have e : m = m - k + k := by omega
        conv => rhs; rw [e]
        exact (Nat.gcd_add_self_left k (m - k)).symm
      obtain ⟨r, h4, h5⟩ := pow_common n (m - k) k a c (by omega) hg2 h2
      refine ⟨r, h4, ?_⟩
      rw [h5, h4, ← Nat.pow_add]
      congr 1
      omega
    · have hd : b ^ m ∣ a ^ m := by rw [h]; exact Nat.pow_dvd_pow b hle
      obtain ⟨c, rfl⟩ := (Nat.pow_dvd_pow_iff (by omega)).1 hd
      have h2 : c ^ m = b ^ (k - m) := by
        rw [Nat.mul_pow] at h
        have h3 : b ^ m * b ^ (k - m) = b ^ k := by rw [← Nat.pow_add]; congr 1; omega
        rw [← h3] at h
        exact Nat.eq_of_mul_eq_mul_left (Nat.pow_pos (Nat.pos_of_ne_zero hb)) h
      have hg2 : Nat.gcd m (k - m) = 1 := by
        rw [← hg]
        have e : k = k - m + m := by omega
        conv => rhs; rw [e]
        exact (Nat.gcd_add_self_right m (k - m)).symm
      obtain ⟨r, h4, h5⟩ := pow_common n m (k - m) c b (by omega) hg2 h2
      refine ⟨r, ?_, h5⟩
      rw [h5, h4, ← Nat.pow_add]
      congr 1
      omega
end Go.Proofs.YtabdmnjdmnnejaaDoor
