/- First powers, and powers of two, plainly. -/
import Derived.Test.YtabdmnjdmnnejaaDoorPwLaw
import Derived.Test.YtabdmnjdmnnejaaDoorRatRule
namespace Go.Proofs.YtabdmnjdmnnejaaDoor
set_option maxRecDepth 100000

theorem isBrk_one (F : Int) : isBrk 1 F = (decide (-1075 ≤ F) && decide (F ≤ 1024)) := by
  have ht : topD ⟨false, 1, F⟩ = F := by unfold topD; dsimp only; rw [bitN_one]; omega
  unfold isBrk
  rw [ht, bitN_one]
  by_cases h : 1023 < F
  · rw [if_pos h]
    by_cases h2 : F = 1024
    · subst h2; decide
    · rw [decide_eq_false h2, decide_eq_false (show ¬ F ≤ 1024 by omega), Bool.false_and, Bool.and_false]
  · rw [if_neg h, decide_eq_true (show F ≤ 1024 by omega), Bool.and_true]
    exact decide_eq_decide.2 (by omega)
theorem PowR_first {M : Nat} {E : Int} {ok : Bool} {P : Nat} {F : Int} (h : PowR M E 1 ((1 : Nat) : Int) ok P F) : ok = isBrk M E ∧ P = (if isBrk M E then M else 0) ∧ F = (if isBrk M E then E else 0) := by
  have e1 : ((1 : Nat) : Int).toNat = 1 := rfl
  rcases h with ⟨h, -⟩ | ⟨-, rfl, hb, -, r, f, h1, h2, h3⟩ | ⟨-, rfl, rfl, rfl, h⟩
  · exact absurd h (by decide)
  · rw [e1, Nat.pow_one] at h1
    subst h1
    rw [show ((1 : Nat) : Int) = 1 from rfl, Int.mul_one] at h2
    subst h2
    obtain ⟨h4, h5⟩ := h3
    rw [Int.mul_one] at h4
    rcases h5 with ⟨-, h5⟩ | ⟨h5, -⟩
    · rw [show (1 : Int).toNat = 1 from rfl, Nat.pow_one] at h5
      subst h4; subst h5
      rw [hb]
      exact ⟨rfl, rfl, rfl⟩
    · exact absurd h5 (by decide)
  · have := h M E M E (by rw [e1, Nat.pow_one]) (by rw [show ((1 : Nat) : Int) = 1 from rfl, Int.mul_one]) ⟨by rw [Int.mul_one], .inl ⟨by decide, by rw [show (1 : Int).toNat = 1 from rfl, Nat.pow_one]⟩⟩
    rw [this]
    exact ⟨rfl, rfl, rfl⟩
theorem PowR_two {n m : Int} {ok : Bool} {P : Nat} {F : Int} {i : Bool} (hi : (decide (-1075 ≤ m * n) && decide (m * n ≤ 1024)) = i) (h : PowR 1 n m ((1 : Nat) : Int) ok P F) : ok = i ∧ P = (if i then 1 else 0) ∧ F = (if i then m * n else 0) := by
  have e1 : ((1 : Nat) : Int).toNat = 1 := rfl
  rcases h with ⟨rfl, rfl, rfl, rfl⟩ | ⟨-, rfl, hb, -, r, f, h1, h2, h3⟩ | ⟨-, rfl, rfl, rfl, h⟩
  · rw [Int.zero_mul] at hi
    subst hi
    exact ⟨rfl, rfl, by rw [Int.zero_mul]; rfl⟩
  · rw [e1, Nat.pow_one] at h1
    subst h1
    rw [show ((1 : Nat) : Int) = 1 from rfl, Int.mul_one] at h2
    subst h2
    obtain ⟨rfl, h5⟩ := h3
    have hP : P = 1 := by
      rcases h5 with ⟨-, h5⟩ | ⟨-, -, h5⟩
      · rw [h5, Nat.one_pow]
      · exact h5
    subst hP
    rw [isBrk_one, Int.mul_comm, hi] at hb
    subst hb
    exact ⟨rfl, rfl, by rw [Int.mul_comm]; rfl⟩
  · have := h 1 n 1 (n * m) (by rw [Nat.one_pow]) (by rw [show ((1 : Nat) : Int) = 1 from rfl, Int.mul_one]) ⟨rfl, by
      by_cases hm : 0 ≤ m
      · exact .inl ⟨hm, by rw [Nat.one_pow]⟩
      · exact .inr ⟨by omega, rfl, rfl⟩⟩
    rw [isBrk_one, Int.mul_comm, hi] at this
    subst this
    exact ⟨rfl, rfl, rfl⟩
theorem PowR_nought {M : Nat} {E k : Int} {ok : Bool} {P : Nat} {F : Int} (h : PowR M E 0 k ok P F) : ok = true ∧ P = 1 ∧ F = 0 := by
  rcases h with ⟨-, h⟩ | ⟨h, -⟩ | ⟨h, -⟩
  · exact h
  · exact absurd rfl h
  · exact absurd rfl h
theorem cmpD_self {M : Nat} {E : Int} (h0 : M ≠ 0) : cmpD ⟨false, M, E⟩ ⟨false, M, E⟩ = 0 := by
  have hs : signD ⟨false, M, E⟩ = 1 := by unfold signD; rw [if_neg h0]; rfl
  unfold cmpD
  rw [if_neg (by rw [hs]; decide), hs, cmpM_self]
  rfl
end Go.Proofs.YtabdmnjdmnnejaaDoor
