/- What exps.Split needs of sizes: plainly. Conditions: none. -/
import Derived.Test.YthmaoohjhnpamaaDoorExpsLaw2
namespace Go.Proofs.YthmaoohjhnpamaaDoor
set_option maxRecDepth 100000
set_option linter.unusedVariables false

theorem three_s : ∀ j : Nat, 96 * (8 + j + 64) ≤ 29 * 2 ^ (8 + j)
  | 0 => by decide
  | j + 1 => by
    have := three_s j
    rw [show 8 + (j + 1) = (8 + j) + 1 by omega, Nat.pow_succ]
    omega
/-- ln 2 isn't nought at any scale. -/
theorem ln2_pos8 {s L H : Nat} (o : AtOk 1 3 s L H) (s1 : 8 ≤ s) : 2 ^ s ≤ 32 * L ∧ 0 < L := by
  have e : (1 / 3 : Rat) * ((3 : Nat) : Rat) = ((1 : Nat) : Rat) := by decide +kernel
  have h1 := o.hi _ e (by decide +kernel) (by decide +kernel) 1
  have e1 : atA (1 / 3) 1 = 1 / 3 := by decide +kernel
  rw [e1] at h1
  have hw := o.wide
  have h2 : 2 ^ s ≤ 3 * H := by
    refine Rat.natCast_le_natCast.1 ?_
    rw [Rat.natCast_mul]
    show _ ≤ (3 : Rat) * _
    grind
  obtain ⟨j, rfl⟩ : ∃ j, s = 8 + j := ⟨s - 8, by omega⟩
  have h3 := three_s j
  have hp := Nat.two_pow_pos (8 + j)
  generalize 2 ^ (8 + j) = x at *
  omega
theorem units_le {M : Nat} {E : Int} {s : Nat} {ab : Bool} (h : M = 0 ∨ (bitN M : Int) - 1 + E < 12) : unitsN M E s ab ≤ 2 ^ (12 + s) := by
  rcases h with h | h
  · subst h
    have h0 : ∀ a, cdiv 0 a = 0 := cdiv_zero
    unfold unitsN
    split
    · rw [Nat.zero_mul]; exact Nat.zero_le _
    · split
      · rw [h0]; exact Nat.zero_le _
      · rw [Nat.zero_div]; exact Nat.zero_le _
  · have hb := bitN_lt M
    unfold unitsN
    by_cases h0 : 0 ≤ E + (s : Int)
    · rw [if_pos h0]
      have h1 := Nat.mul_le_mul_right (2 ^ (E + (s : Int)).toNat) (Nat.le_of_lt hb)
      rw [← Nat.pow_add] at h1
      exact Nat.le_trans h1 (Nat.pow_le_pow_right (by decide) (by omega))
    · rw [if_neg h0]
      have key : M ≤ 2 ^ (12 + s) * 2 ^ (-E - (s : Int)).toNat := by
        rw [← Nat.pow_add]
        exact Nat.le_trans (Nat.le_of_lt hb) (Nat.pow_le_pow_right (by decide) (by omega))
      split
      · exact cdiv_le_of (Nat.two_pow_pos _) key
      · exact Nat.le_trans (div_le_cdiv _ _) (cdiv_le_of (Nat.two_pow_pos _) key)
/-- What exps.Split reckons with: sizes. -/
theorem split_sizes {l : Int} {s C D L : Nat} (hC : C = L + L) (hCD : C ≤ D) (h32 : 2 ^ s ≤ 32 * L) (hL : 0 < L) (hl : l.natAbs ≤ 2 ^ (12 + s)) : splitQ l C D ≤ 65536 := by
  have hl2 : l.natAbs ≤ 65536 * C := by
    rw [Nat.pow_add] at hl
    have : 2 ^ 12 * 2 ^ s ≤ 2 ^ 12 * (32 * L) := Nat.mul_le_mul_left _ h32
    generalize 2 ^ s = x at *
    omega
  unfold splitQ
  split
  · exact cdiv_le_of (by omega) hl2
  · exact Nat.le_of_lt_succ ((Nat.div_lt_iff_lt_mul (show 0 < D by omega)).2 (by
      have h1 : 65536 * C ≤ 65536 * D := Nat.mul_le_mul_left _ hCD
      show l.natAbs < 65537 * D
      omega))
theorem up_cdiv {A B U : Nat} (h : A / B + (if A % B = 0 then 0 else 1) = U) : cdiv A B = U := by
  rw [← h]
  unfold cdiv
  split <;> simp_all
end Go.Proofs.YthmaoohjhnpamaaDoor
