/- math/bits.Div64 by its contract. Conditions: the high half is below the divisor. -/
import Derived.Test.YtnoelffaccekjaaDoorQuo0
import Derived.Laws.BitsLemmas
import Derived.Laws.Bits64b
namespace Go.Proofs.YtnoelffaccekjaaDoor
open Go.RowKit

/-! ### one digit of a division by a number of two digits: b the base, D = d1 b + d0, U = u b + un -/
theorem half_up {b d1 d0 u un q r : Nat} (hq : q * d1 + r = u) (h : q * d0 ≤ b * r + un) : q * (d1 * b + d0) ≤ u * b + un := by
  have e : q * (d1 * b + d0) + r * b = u * b + q * d0 := by
    rw [Nat.mul_add, ← Nat.mul_assoc, ← hq, Nat.add_mul]; omega
  rw [Nat.mul_comm b r] at h
  omega
theorem half_dn {b d1 d0 u un q r : Nat} (hq : q * d1 + r = u) (h : b * r + un < q * d0) : u * b + un < q * (d1 * b + d0) := by
  have e : q * (d1 * b + d0) + r * b = u * b + q * d0 := by
    rw [Nat.mul_add, ← Nat.mul_assoc, ← hq, Nat.add_mul]; omega
  rw [Nat.mul_comm b r] at h
  omega
theorem half_big {b D U q : Nat} (h : U < D * b) (hq : b ≤ q) : U < q * D := by
  have := Nat.mul_le_mul_right D hq
  rw [Nat.mul_comm D b] at h; omega
theorem half_brk {b d0 un q r : Nat} (hr : b ≤ r) (hq : q ≤ b) (hd : d0 ≤ b) : q * d0 ≤ b * r + un := by
  have h1 := Nat.mul_le_mul hq hd
  have h2 := Nat.mul_le_mul_left b hr
  omega
theorem half_start {b d1 d0 u un : Nat} (hb : un < b) (hd : 0 < d1) : u * b + un < (u / d1 + 1) * (d1 * b + d0) := by
  have h1 := Nat.lt_mul_div_succ u hd
  have h2 : (u + 1) * b ≤ (u / d1 + 1) * d1 * b := Nat.mul_le_mul_right b (by rw [Nat.mul_comm]; exact h1)
  have h3 : (u / d1 + 1) * d1 * b ≤ (u / d1 + 1) * (d1 * b + d0) := by rw [Nat.mul_assoc]; exact Nat.mul_le_mul_left _ (by omega)
  rw [Nat.add_mul] at h2
  omega
theorem half_end {D U q : Nat} (h1 : q * D ≤ U) (h2 : U < (q + 1) * D) : U / D = q ∧ U - q * D = U % D := by
  have hd : U / D = q := Nat.div_eq_of_lt_le h1 h2
  refine ⟨hd, ?_⟩
  have := Nat.mod_add_div U D
  rw [hd, Nat.mul_comm] at this
  omega
theorem half_most {b d1 d0 u : Nat} (hu : u < d1 * b + d0) (hd0 : d0 < b) (h2 : b ≤ 2 * d1) (hd : 0 < d1) : u / d1 ≤ b + 1 := by
  have : u < d1 * (b + 2) := by rw [Nat.mul_add]; omega
  have := (Nat.div_lt_iff_lt_mul hd).2 (by rw [Nat.mul_comm] at this; exact this)
  omega

theorem lz_any {w : World} {y : Nat} (hy : y < 18446744073709551616) :
    Calls Tryd.prog 57 #[.int .u64 (y : Int)] w fun e w' => e = .returned (.int .i64 ((64 - bitN y : Nat) : Int)) ∧ w' = w := by
  have := Tryd.bits_LeadingZeros64 y w (by omega) (by omega)
  have h64 : bitN y ≤ 64 := bitN_le.2 hy
  rw [Int.toNat_natCast, bitLen_bitN _ hy, show (64 : Int) - (bitN y : Int) = ((64 - bitN y : Nat) : Int) by omega] at this
  exact this

/-- A shift so far that the top bit is set. -/
theorem shift_top {y s : Nat} (h0 : y ≠ 0) (hy : y < 18446744073709551616) (hs : 64 - bitN y = s) : s ≤ 63 ∧ 9223372036854775808 ≤ y * 2 ^ s ∧ y * 2 ^ s < 18446744073709551616 := by
  have h1 := bitN_pos h0
  have h64 : bitN y ≤ 64 := bitN_le.2 hy
  have h2 := bitN_ge h0
  have h3 := bitN_lt y
  have e1 : 2 ^ (bitN y - 1) * 2 ^ s = 9223372036854775808 := by rw [← Nat.pow_add, show bitN y - 1 + s = 63 by omega]
  have e2 : 2 ^ bitN y * 2 ^ s = 18446744073709551616 := by rw [← Nat.pow_add, show bitN y + s = 64 by omega]
  have h4 := Nat.mul_le_mul_right (2 ^ s) h2
  have h5 := Nat.mul_lt_mul_of_pos_right h3 (Nat.pow_pos (n := s) (show 0 < 2 by omega))
  exact ⟨by omega, by omega, by omega⟩

/-- The dividend, shifted as far. -/
theorem shift_num {h l P R : Nat} (hPR : P * R = 18446744073709551616) : (h * 18446744073709551616 + l) * P / 18446744073709551616 = h * P + l / R ∧ (h * 18446744073709551616 + l) * P % 18446744073709551616 = l * P % 18446744073709551616 := by
  have e : (h * 18446744073709551616 + l) * P = l * P + 18446744073709551616 * (h * P) := by
    rw [Nat.add_mul, Nat.mul_right_comm, Nat.mul_comm (h * P)]; omega
  have hP : 0 < P := Nat.pos_of_ne_zero fun h => by rw [h] at hPR; omega
  have e2 : l * P / 18446744073709551616 = l / R := by rw [← hPR, Nat.mul_comm P R]; exact Nat.mul_div_mul_right _ _ hP
  rw [e, Nat.add_mul_div_left _ _ (by omega), Nat.add_mul_mod_self_left, e2]
  exact ⟨by omega, rfl⟩

theorem or_parts {h l s : Nat} (hs : s ≤ 63) (h1 : h * 2 ^ s < 18446744073709551616) (h2 : l < 18446744073709551616) : bits .or .u64 ((h * 2 ^ s : Nat) : Int) ((l / 2 ^ (64 - s) : Nat) : Int) = ((h * 2 ^ s + l / 2 ^ (64 - s) : Nat) : Int) := by
  have hlt : l / 2 ^ (64 - s) < 2 ^ s := by
    rw [Nat.div_lt_iff_lt_mul (Nat.pow_pos (by omega)), ← Nat.pow_add, show s + (64 - s) = 64 by omega]; exact h2
  have hb : l / 2 ^ (64 - s) < 2 ^ 64 := Nat.lt_of_le_of_lt (Nat.div_le_self _ _) h2
  rw [(bits_nat .u64 64 (by decide) (fun n h0 h1 => by rw [IntKind.wrap_u64]; omega) (h * 2 ^ s) (l / 2 ^ (64 - s)) h1 hb).2]
  rw [Nat.mul_comm h, Nat.two_pow_add_eq_or_of_lt hlt]

theorem low_half (x : Nat) (hx : x < 18446744073709551616) : bits .and .u64 (x : Int) 4294967295 = ((x % 4294967296 : Nat) : Int) := by
  have := bits_mask .u64 64 (by decide) (fun n h0 h1 => by rw [IntKind.wrap_u64]; omega) 32 (by decide) x (by omega) (by omega)
  have e : ((2 : Int) ^ 32 - 1) = 4294967295 := by decide
  rw [e] at this
  rw [this]; omega

/-- One half digit's loop: the guess, what is left, and that the guess isn't too small. -/
structure HalfRel (d1 d0 u un q r : Nat) : Prop where
  eq : q * d1 + r = u
  up : u * 4294967296 + un < (q + 1) * (d1 * 4294967296 + d0)
  most : q ≤ 4294967297
  small : r < 4294967296

theorem HalfRel.start {d1 d0 u un : Nat} (h1 : 2147483648 ≤ d1) (h2 : d1 < 4294967296) (hd : d0 < 4294967296) (hu : u < d1 * 4294967296 + d0) (hn : un < 4294967296) : HalfRel d1 d0 u un (u / d1) (u - u / d1 * d1) := by
  have e := Nat.mod_add_div u d1
  have hm := Nat.mod_lt u (show 0 < d1 by omega)
  rw [Nat.mul_comm] at e
  exact ⟨by omega, half_start hn (by omega), half_most hu hd (by omega) (by omega), by omega⟩
theorem HalfRel.fin {d1 d0 u un q r : Nat} (h : HalfRel d1 d0 u un q r) (hq : q * d0 ≤ 4294967296 * r + un) : (u * 4294967296 + un) / (d1 * 4294967296 + d0) = q ∧ u * 4294967296 + un - q * (d1 * 4294967296 + d0) = (u * 4294967296 + un) % (d1 * 4294967296 + d0) :=
  half_end (half_up h.eq hq) h.up
/-- Less by one. -/
theorem HalfRel.down {d1 d0 u un q r : Nat} (h : HalfRel d1 d0 u un q r) (hu : u < d1 * 4294967296 + d0) (hn : un < 4294967296) (hc : 4294967296 ≤ q ∨ 4294967296 * r + un < q * d0) :
    ∃ p, q = p + 1 ∧ p * d1 + (r + d1) = u ∧ u * 4294967296 + un < (p + 1) * (d1 * 4294967296 + d0) ∧ p ≤ 4294967296 := by
  have hU : u * 4294967296 + un < q * (d1 * 4294967296 + d0) := by
    rcases hc with hc | hc
    · refine half_big ?_ hc
      have := Nat.mul_le_mul_right 4294967296 (show u + 1 ≤ d1 * 4294967296 + d0 from hu)
      rw [Nat.add_mul] at this; omega
    · exact half_dn h.eq hc
  have hq0 : q ≠ 0 := fun h0 => by rw [h0] at hU; omega
  obtain ⟨p, rfl⟩ : ∃ p, q = p + 1 := ⟨q - 1, by omega⟩
  have e := h.eq
  rw [Nat.add_mul] at e
  exact ⟨p, rfl, by omega, hU, by have := h.most; omega⟩
theorem brk {d1 d0 u un p r : Nat} (he : p * d1 + r = u) (hU : u * 4294967296 + un < (p + 1) * (d1 * 4294967296 + d0)) (hr : 4294967296 ≤ r) (hp : p ≤ 4294967296) (hd : d0 < 4294967296) :
    (u * 4294967296 + un) / (d1 * 4294967296 + d0) = p ∧ u * 4294967296 + un - p * (d1 * 4294967296 + d0) = (u * 4294967296 + un) % (d1 * 4294967296 + d0) :=
  half_end (half_up he (half_brk hr hp (by omega))) hU
end Go.Proofs.YtnoelffaccekjaaDoor
