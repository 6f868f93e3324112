/- exps.Exp by its values; what of a logarithm's interval may be split: plainly. Conditions: none. -/
import Derived.Test.YthmaoohjhnpamaaDoorExpsLaw3
import Derived.Test.YthmaoohjhnpamaaDoorValG
namespace Go.Proofs.YthmaoohjhnpamaaDoor
set_option maxRecDepth 100000
set_option linter.unusedVariables false

/-- What exps.Exp tells, by values. -/
theorem exp_told {lo hi : Dn} {s L H A B Le He m1 m2 : Nat} {n1 n2 : Bool} {f1 f2 : Int} (s2 : s ≤ 8900) (o : AtOk 1 3 s L H) (hA : splitA (floorU lo s) (L + L) (H + H) = (A : Int)) (hB : splitB (floorU lo s) (ceilU hi s) (L + L) (H + H) = (B : Int)) (hBS : B ≤ 2 ^ s) (oe : ExOk A B s Le He)
    (hk : (splitK (floorU lo s) (L + L) (H + H)).natAbs ≤ 65536)
    (qa : bareD ⟨false, Le, -((s : Int) - splitK (floorU lo s) (L + L) (H + H))⟩ = ⟨n1, m1, f1⟩) (qb : bareD ⟨false, He, -((s : Int) - splitK (floorU lo s) (L + L) (H + H))⟩ = ⟨n2, m2, f2⟩) :
    XL (-(qv lo)) (qv ⟨n1, m1, f1⟩) 1 ∧ XL (qv hi) 1 (qv ⟨n2, m2, f2⟩) := by
  have h2 := ln_two o
  have e2 : ∀ x : Nat, 2 * (x : Rat) = ((x + x : Nat) : Rat) := fun x => by rw [Rat.natCast_add]; grind
  rw [e2, e2] at h2
  obtain ⟨h3, h4⟩ := exp_split h2 hA hB hBS oe
  have v1 := qv_bare (d := ⟨false, Le, -((s : Int) - splitK (floorU lo s) (L + L) (H + H))⟩) (by dsimp only; omega) (by dsimp only; omega)
  have v2 := qv_bare (d := ⟨false, He, -((s : Int) - splitK (floorU lo s) (L + L) (H + H))⟩) (by dsimp only; omega) (by dsimp only; omega)
  rw [qa, qv_pos, show -((s : Int) - splitK (floorU lo s) (L + L) (H + H)) = splitK (floorU lo s) (L + L) (H + H) - (s : Int) by omega] at v1
  rw [qb, qv_pos, show -((s : Int) - splitK (floorU lo s) (L + L) (H + H)) = splitK (floorU lo s) (L + L) (H + H) - (s : Int) by omega] at v2
  rw [v1, v2]
  exact ⟨h3, h4⟩
/-- Nothing of a middle size is refused. -/
theorem not_refused {lo hi : Dn} {s L H : Nat} (s1 : 32 ≤ s) (o : AtOk 1 3 s L H) (hlh : floorU lo s ≤ ceilU hi s) (hl : (floorU lo s).natAbs ≤ 2 ^ (12 + s)) (hh : (ceilU hi s - floorU lo s) * 8 ≤ ((2 ^ s : Nat) : Int)) : ¬ ((2 ^ s : Nat) : Int) < splitB (floorU lo s) (ceilU hi s) (L + L) (H + H) := by
  have h2 := ln_two o
  have e2 : ∀ x : Nat, 2 * (x : Rat) = ((x + x : Nat) : Rat) := fun x => by rw [Rat.natCast_add]; grind
  rw [e2, e2] at h2
  have h3 := o.le; have h4 := o.wide
  rw [Nat.pow_add] at hl
  exact Int.not_lt.2 (split_fits s1 h2 (by omega) (by omega) hlh hl hh)
/-- The top of a bare number below 4096. -/
theorem top_small {d : Dn} (h0 : d.m ≠ 0) (h1 : qv d < 4096) (h2 : -4096 < qv d) : (bitN d.m : Int) - 1 + d.e < 12 := by
  have hb := bitN_ge h0
  have h3 : (d.m : Rat) * pw d.e < 4096 := by
    unfold qv at h1 h2
    cases hn : d.neg
    · rw [hn, if_neg (by decide)] at h1; exact h1
    · rw [hn, if_pos rfl] at h2; grind
  rcases Int.lt_or_le ((bitN d.m : Int) - 1 + d.e) 12 with h | h
  · exact h
  · exfalso
    have hp := bitN_pos h0
    have h4 := Rat.mul_le_mul_of_nonneg_right (rq_le hb) (Rat.le_of_lt (pw_pos d.e))
    have h5 : ((2 ^ (bitN d.m - 1) : Nat) : Rat) * pw d.e = pw ((bitN d.m : Int) - 1 + d.e) := by
      rw [← pw_nat, ← pw_add]
      congr 1
      omega
    rw [h5] at h4
    have h6 := pw_mono h
    have h7 : pw 12 = 4096 := by
      have := pw_nat 12
      rw [show ((12 : Nat) : Int) = 12 from rfl] at this
      rw [this]; rfl
    rw [h7] at h6
    grind
theorem floor_small {d : Dn} {s : Nat} (h : d.m = 0 ∨ (bitN d.m : Int) - 1 + d.e < 12) : (floorU d s).natAbs ≤ 2 ^ (12 + s) := by
  unfold floorU
  have h1 := units_le (s := s) (ab := d.neg) h
  have : (sg d.neg (unitsN d.m d.e s d.neg)).natAbs = unitsN d.m d.e s d.neg := by unfold sg; split <;> omega
  rw [this]; exact h1
/-- A logarithm's interval in units. -/
theorem units_wide {lo hi : Dn} {s n : Nat} (s1 : 32 ≤ s) (hw : qv hi ≤ qv lo + (n : Rat) * ((2 * s + 128 : Nat) : Rat) * pw (-(s : Int))) (hn : n ≤ 2000000) : (ceilU hi s - floorU lo s) * 8 ≤ ((2 ^ s : Nat) : Int) := by
  have h1 := (ceil_val hi s).2
  have h2 := (floor_val lo s).2
  have hu : pw (-(s : Int)) * pw (s : Int) = 1 := pw_neg (s : Int)
  have h3 := Rat.mul_le_mul_of_nonneg_right hw (Rat.le_of_lt (pw_pos (s : Int)))
  have h4 : (qv lo + (n : Rat) * ((2 * s + 128 : Nat) : Rat) * pw (-(s : Int))) * pw (s : Int) = qv lo * pw (s : Int) + ((n * (2 * s + 128) : Nat) : Rat) := by
    rw [Rat.add_mul, Rat.mul_assoc _ (pw (-(s : Int))), hu, Rat.mul_one, Rat.natCast_mul]
  rw [h4] at h3
  have h5 : ((ceilU hi s : Int) : Rat) ≤ ((floorU lo s + ((n * (2 * s + 128) : Nat) : Int) + 2 : Int) : Rat) := by
    rw [Rat.intCast_add, Rat.intCast_add]
    have e1 : (((n * (2 * s + 128) : Nat) : Int) : Rat) = ((n * (2 * s + 128) : Nat) : Rat) := rfl
    rw [e1]
    have e2 : (((2 : Int)) : Rat) = 2 := rfl
    rw [e2]
    grind
  have h6 := Rat.intCast_le_intCast.1 h5
  obtain ⟨j, rfl⟩ : ∃ j, s = 32 + j := ⟨s - 32, by omega⟩
  have h7 := two_s j
  have h8 : n * (2 * (32 + j) + 128) ≤ 2000000 * 2 ^ (8 + j) := Nat.mul_le_mul hn h7
  have e3 : 2 ^ (32 + j) = 16777216 * 2 ^ (8 + j) := by
    rw [show 32 + j = 24 + (8 + j) by omega, Nat.pow_add]
  have h9 : 256 ≤ 2 ^ (8 + j) := by
    have := Nat.pow_le_pow_right (n := 2) (by decide) (show 8 ≤ 8 + j by omega)
    exact this
  rw [e3]
  clear e3 h1 h2 h3 h4 h5 hw
  generalize 2 ^ (8 + j) = x at *
  generalize n * (2 * (32 + j) + 128) = y at *
  omega
end Go.Proofs.YthmaoohjhnpamaaDoor
