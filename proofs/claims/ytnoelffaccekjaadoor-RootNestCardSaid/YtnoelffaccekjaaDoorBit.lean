/- How many bits a number has, and what that is of its digits. Conditions: the base is a power of two. -/
import Derived.Test.YtnoelffaccekjaaDoorVal
import Derived.Lib.BitFns
namespace Go.Proofs.YtnoelffaccekjaaDoor

/-- How many bits. -/
def bitN (n : Nat) : Nat := if n = 0 then 0 else n.log2 + 1

theorem bitN_le {n k : Nat} : bitN n ≤ k ↔ n < 2 ^ k := by
  unfold bitN
  by_cases h : n = 0
  · simp [h, Nat.pow_pos]
  · rw [if_neg h, ← Nat.log2_lt h]; exact Nat.succ_le_iff
theorem lt_bitN {n k : Nat} : k < bitN n ↔ 2 ^ k ≤ n := by
  rw [← Nat.not_le, bitN_le, Nat.not_lt]
theorem bitN_zero : bitN 0 = 0 := rfl
theorem bitN_one : bitN 1 = 1 := by decide
theorem bitN_lt (n : Nat) : n < 2 ^ bitN n := bitN_le.1 (Nat.le_refl _)
theorem bitN_pos {n : Nat} (h : n ≠ 0) : 0 < bitN n := lt_bitN.2 (by simp; omega)
theorem bitN_ge {n : Nat} (h : n ≠ 0) : 2 ^ (bitN n - 1) ≤ n := lt_bitN.1 (by have := bitN_pos h; omega)
theorem bitN_mono {a b : Nat} (h : a ≤ b) : bitN a ≤ bitN b := bitN_le.2 (Nat.lt_of_le_of_lt h (bitN_lt b))
theorem bitN_eq {a c : Nat} (h : ∀ k, a < 2 ^ k ↔ c ≤ k) : bitN a = c :=
  Nat.le_antisymm (bitN_le.2 ((h c).2 (Nat.le_refl _))) ((h _).1 (bitN_lt a))
theorem bitN_add {p lo t : Nat} (h : lo < 2 ^ p) (ht : t ≠ 0) : bitN (lo + 2 ^ p * t) = p + bitN t := by
  have h1 := bitN_ge ht
  have h0 := bitN_pos ht
  apply Nat.le_antisymm
  · rw [bitN_le, Nat.pow_add]
    have h2 : t + 1 ≤ 2 ^ bitN t := bitN_lt t
    have h3 := Nat.mul_le_mul_left (2 ^ p) h2
    rw [Nat.mul_add] at h3; omega
  · have : p + bitN t - 1 < bitN (lo + 2 ^ p * t) := by
      rw [lt_bitN, show p + bitN t - 1 = p + (bitN t - 1) by omega, Nat.pow_add]
      have h3 := Nat.mul_le_mul_left (2 ^ p) h1
      omega
    omega
theorem bitN_mul_le (a b : Nat) : bitN (a * b) ≤ bitN a + bitN b := by
  rw [bitN_le, Nat.pow_add]
  exact Nat.mul_lt_mul'' (bitN_lt a) (bitN_lt b)
theorem bitN_mul_ge {a b : Nat} (ha : a ≠ 0) (hb : b ≠ 0) : bitN a + bitN b ≤ bitN (a * b) + 1 := by
  have h0 := bitN_pos ha
  have h1 := bitN_pos hb
  have : bitN a - 1 + (bitN b - 1) < bitN (a * b) := by
    rw [lt_bitN, Nat.pow_add]
    exact Nat.mul_le_mul (bitN_ge ha) (bitN_ge hb)
  omega
theorem bitN_pow_le (a k : Nat) : bitN (a ^ k) ≤ bitN a * k + 1 := by
  rw [bitN_le, Nat.pow_succ, Nat.pow_mul]
  have := Nat.pow_le_pow_left (Nat.le_of_lt (bitN_lt a)) k
  have h2 : 0 < (2 ^ bitN a) ^ k := Nat.pow_pos (Nat.pow_pos (by omega))
  omega
theorem bitN_pow_ge {a : Nat} (ha : a ≠ 0) (k : Nat) : (bitN a - 1) * k < bitN (a ^ k) := by
  rw [lt_bitN, Nat.pow_mul]
  exact Nat.pow_le_pow_left (bitN_ge ha) k
theorem bitN_pow_le' {a k : Nat} (hk : 0 < k) : bitN (a ^ k) ≤ bitN a * k := by
  rw [bitN_le, Nat.pow_mul]
  exact Nat.pow_lt_pow_left (bitN_lt a) (by omega)

theorem bitN_half {x : Nat} (h : x ≠ 0) : bitN x = 1 + bitN (x / 2) := by
  by_cases h2 : x / 2 = 0
  · rw [h2, show x = 1 by omega]; decide
  · have := bitN_add (p := 1) (lo := x % 2) (t := x / 2) (by simp; omega) h2
    rw [show x % 2 + 2 ^ 1 * (x / 2) = x by simp; omega] at this
    exact this
theorem bitLen_bitN (x : Nat) (h : x < 2 ^ 64) : Lib.bitLen x = bitN x := by
  induction x using Nat.strongRecOn with
  | ind x ih =>
    by_cases h0 : x = 0
    · subst h0; rfl
    · rw [Lib.bitLen_half x h0 h, bitN_half h0, ih (x / 2) (by omega) (by omega)]

theorem strip_top : ∀ {l : List Nat}, strip l ≠ [] → (strip l).getD ((strip l).length - 1) 0 ≠ 0
  | [], h => absurd rfl h
  | x :: l, h => by
    unfold strip at h ⊢
    split at h
    · exact absurd rfl h
    · rename_i hc
      rw [if_neg hc]
      by_cases hs : strip l = []
      · rw [hs]; simp; intro hx; exact hc ⟨hs, hx⟩
      · have := strip_top hs
        have hp := List.length_pos_iff.2 hs
        rw [List.length_cons, show (strip l).length + 1 - 1 = (strip l).length - 1 + 1 by omega]
        simpa using this

theorem val_strip (B : Nat) : ∀ l : List Nat, val B (strip l) = val B l
  | [] => rfl
  | x :: l => by
    have ih := val_strip B l
    unfold strip
    split
    · rename_i h; rw [h.1] at ih; simp [h.2, ← ih]
    · simp [ih]

theorem bits_list {p : Nat} {s : List Nat} (hd : Dig (2 ^ p) s) (hs : s ≠ []) (ht : s.getD (s.length - 1) 0 ≠ 0) :
    bitN (val (2 ^ p) s) = p * (s.length - 1) + bitN (s.getD (s.length - 1) 0) := by
  have hp := List.length_pos_iff.2 hs
  have e := val_take_succ (2 ^ p) s (s.length - 1)
  rw [show s.length - 1 + 1 = s.length by omega, List.take_length] at e
  have h1 := val_lt (hd.take (s.length - 1))
  rw [List.length_take, Nat.min_eq_left (by omega)] at h1
  rw [e]
  rw [← Nat.pow_mul] at h1 ⊢
  exact bitN_add h1 ht
theorem bits_val {p : Nat} (hp : 0 < p) {l : List Nat} (hd : Dig (2 ^ p) l) :
    (if strip l = [] then 0 else p * ((strip l).length - 1) + bitN ((strip l).getD ((strip l).length - 1) 0)) = bitN (val (2 ^ p) l) := by
  have h2 : 2 ≤ 2 ^ p := by
    have := Nat.pow_le_pow_right (n := 2) (by omega) hp
    simpa using this
  by_cases h : strip l = []
  · rw [if_pos h, (strip_nil_iff _ l (by omega)).1 h]; rfl
  · rw [if_neg h, ← val_strip]
    exact (bits_list (by rw [strip_eq h2 hd]; exact dig_digs h2 _) h (strip_top h)).symm
end Go.Proofs.YtnoelffaccekjaaDoor
