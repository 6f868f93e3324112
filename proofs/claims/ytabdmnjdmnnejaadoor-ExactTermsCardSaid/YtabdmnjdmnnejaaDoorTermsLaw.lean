/- ExactTerms, plainly. Conditions: none. -/
import Derived.Test.YtabdmnjdmnnejaaDoorRatG
import Derived.Test.YtabdmnjdmnnejaaDoorDyG
namespace Go.Proofs.YtabdmnjdmnnejaaDoor
set_option maxRecDepth 100000
set_option linter.unusedVariables false

/-- What exact.Of tells of the bare M times 2^E. -/
def ofOk (M : Nat) (E : Int) : Bool := fitsE E && (decide (-62 ≤ E) && decide ((bitN M : Int) + max E 0 ≤ 62))
def ofM (n' : Bool) (M : Nat) (E : Int) : Int := if n' then -((M * 2 ^ (max E 0).toNat : Nat) : Int) else ((M * 2 ^ (max E 0).toNat : Nat) : Int)
def ofK (E : Int) : Int := ((2 ^ (max (-E) 0).toNat : Nat) : Int)

/-- The reference's question. -/
theorem may_eq {M : Nat} {E : Int} (h0 : M ≠ 0) : (decide ((bitN M : Int) - 1 + E < 62) && decide ((bitN M : Int) ≤ 62)) = decide ((bitN M : Int) + max E 0 ≤ 62) := by
  by_cases h1 : (bitN M : Int) - 1 + E < 62
  · by_cases h2 : (bitN M : Int) ≤ 62
    · rw [decide_eq_true h1, decide_eq_true h2, decide_eq_true (by omega)]; rfl
    · rw [decide_eq_true h1, decide_eq_false h2, decide_eq_false (by omega)]; rfl
  · rw [decide_eq_false h1, Bool.false_and]; exact (decide_eq_false (by omega)).symm
/-- There and back. -/
theorem back_cmp {n' : Bool} {M c d C : Nat} {E : Int} (hc : max E 0 = (c : Int)) (hd : max (-E) 0 = (d : Int)) (hC : M * 2 ^ c = C) : cmpD ⟨n', C, -(d : Int)⟩ ⟨n', M, E⟩ = 0 := by
  have hE : E = (c : Int) - (d : Int) := by omega
  have h : qv ⟨n', C, -(d : Int)⟩ = qv ⟨n', M, E⟩ := by
    have e : (C : Rat) * pw (-(d : Int)) = (M : Rat) * pw E := by
      rw [hE, show (c : Int) - (d : Int) = (c : Int) + -(d : Int) by omega, pw_add, pw_nat, ← hC, Rat.natCast_mul]
      grind
    unfold qv
    dsimp only
    rw [e]
  rcases cmpD_val ⟨n', C, -(d : Int)⟩ ⟨n', M, E⟩ with ⟨h1, -⟩ | ⟨-, h2⟩ | ⟨h1, -⟩
  · rw [h] at h1; grind
  · exact h2
  · rw [h] at h1; grind
/-- Nothing divides both. -/
theorem gcd_no {m : Int} {k t : Nat} (hg : Nat.gcd m.natAbs k = 1) (ht : 2 ≤ t) (h : m.tmod (t : Int) = 0) : (k : Int).tmod (t : Int) ≠ 0 := by
  intro h2
  have h3 : t ∣ m.natAbs := by
    have := Int.natAbs_dvd_natAbs.2 (Int.dvd_of_tmod_eq_zero h)
    rwa [Int.natAbs_natCast] at this
  have h4 : t ∣ k := by
    have := Int.natAbs_dvd_natAbs.2 (Int.dvd_of_tmod_eq_zero h2)
    rwa [Int.natAbs_natCast, Int.natAbs_natCast] at this
  have h5 := Nat.dvd_gcd h3 h4
  rw [hg] at h5
  have := Nat.le_of_dvd (by decide) h5
  omega
theorem odd_no {M : Nat} {n' : Bool} (h : M % 2 = 1) : (if n' then -(M : Int) else (M : Int)).tmod 2 ≠ 0 := by
  intro h2
  have h3 := Int.dvd_of_tmod_eq_zero h2
  cases n'
  · simp at h3; omega
  · simp at h3; omega
end Go.Proofs.YtabdmnjdmnnejaaDoor
