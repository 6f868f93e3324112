/- exps.Split refuses nothing of a middle size; how wide exps.Exp's answer is: plainly. Conditions: none. -/
import Derived.Test.YthmaoohjhnpamaaDoorExpsLaw
namespace Go.Proofs.YthmaoohjhnpamaaDoor
set_option maxRecDepth 100000
set_option linter.unusedVariables false

theorem exp_23 : XL (2 / 3) 1 2 := by
  refine XL.of_series (by decide +kernel) (by decide) (fun K => ?_)
  rw [Rat.mul_one]
  refine Rat.le_trans (exA_bound (x := 2 / 3) (by decide +kernel) (by decide +kernel) (k := 6) (by decide) K) ?_
  decide +kernel
theorem exp_710 : XL (-(7 / 10)) 2 1 := by
  refine XL.neg_series (K := 6) (by decide +kernel) (by decide) ?_ (by decide)
  rw [Rat.one_mul]
  decide +kernel
/-- ln 2's ends. -/
theorem ln2_ends {s C D : Nat} (k : LnIn 2 ((C : Rat) * pw (-(s : Int))) ((D : Rat) * pw (-(s : Int)))) : 10 * C ≤ 7 * 2 ^ s ∧ 2 * 2 ^ s ≤ 3 * D := by
  have h1 := k.lo.le_of exp_710
  have h2 := exp_23.le_of k.hi
  have hu := pw_unit s
  have hS := rq_nat_pos (Nat.two_pow_pos s)
  constructor
  · refine rq_unle ?_
    rw [Rat.natCast_mul, Rat.natCast_mul, show ((10 : Nat) : Rat) = 10 from rfl, show ((7 : Nat) : Rat) = 7 from rfl]
    have h3 := Rat.mul_le_mul_of_nonneg_right h1 (Rat.le_of_lt hS)
    rw [Rat.mul_assoc, Rat.mul_comm (pw _), hu, Rat.mul_one] at h3
    grind
  · refine rq_unle ?_
    rw [Rat.natCast_mul, Rat.natCast_mul, show ((2 : Nat) : Rat) = 2 from rfl, show ((3 : Nat) : Rat) = 3 from rfl]
    have h3 := Rat.mul_le_mul_of_nonneg_right h2 (Rat.le_of_lt hS)
    rw [Rat.mul_assoc (D : Rat), Rat.mul_comm (pw _), hu, Rat.mul_one] at h3
    grind
theorem two_s : ∀ j : Nat, 2 * (32 + j) + 128 ≤ 2 ^ (8 + j)
  | 0 => by decide
  | j + 1 => by
    have := two_s j
    rw [show 8 + (j + 1) = (8 + j) + 1 by omega, Nat.pow_succ]
    omega
theorem splitQ_le {l : Int} {C D : Nat} (hC : 0 < C) (hCD : C ≤ D) (h : l.natAbs ≤ 8192 * C) : splitQ l C D ≤ 8192 := by
  unfold splitQ
  split
  · exact cdiv_le_of hC h
  · exact Nat.le_of_lt_succ ((Nat.div_lt_iff_lt_mul (show 0 < D by omega)).2 (by
      have h1 : 8192 * C ≤ 8192 * D := Nat.mul_le_mul_left _ hCD
      show l.natAbs < 8193 * D
      omega))
/-- Nothing of a middle size is refused. -/
theorem split_fits {l h : Int} {s C D : Nat} (s1 : 32 ≤ s) (k : LnIn 2 ((C : Rat) * pw (-(s : Int))) ((D : Rat) * pw (-(s : Int)))) (hCD : C ≤ D) (hw : D ≤ C + (2 * s + 128)) (hlh : l ≤ h) (hl : l.natAbs ≤ 4096 * 2 ^ s) (hh : (h - l) * 8 ≤ ((2 ^ s : Nat) : Int)) :
    splitB l h C D ≤ ((2 ^ s : Nat) : Int) := by
  obtain ⟨e1, e2⟩ := ln2_ends k
  obtain ⟨j, rfl⟩ : ∃ j, s = 32 + j := ⟨s - 32, by omega⟩
  have h2 := two_s j
  have e3 : 2 ^ (32 + j) = 16777216 * 2 ^ (8 + j) := by
    rw [show 32 + j = 24 + (8 + j) by omega, Nat.pow_add]
  rw [e3] at e1 e2 hl hh ⊢
  clear e3 k
  generalize 2 ^ (8 + j) = x at *
  have hC : 0 < C := by omega
  have hC2 : 16777216 * x ≤ 2 * C := by omega
  have hq := splitQ_le hC hCD (show l.natAbs ≤ 8192 * C by omega)
  rw [splitB_le hCD]
  obtain ⟨a1, a2⟩ := splitA_range (l := l) hC hCD
  have hm : splitQ l C D * (D - C) ≤ 8192 * (2 * (32 + j) + 128) := Nat.mul_le_mul hq (by omega)
  generalize splitQ l C D * (D - C) = y at *
  generalize splitA l C D = z at *
  omega
/-- How wide the answer is. -/
theorem exp_thin {l h : Int} {s C D A B L H : Nat} (hCD : C ≤ D) (hw : D ≤ C + (2 * s + 128)) (hlh : h ≤ l + 1) (hA : splitA l C D = (A : Int)) (hB : splitB l h C D = (B : Int)) (o : ExOk A B s L H) :
    H ≤ L + (8 * s + 131 + 3 * (splitK l C D).natAbs * (2 * s + 128)) := by
  rw [splitQ_abs]
  have h1 := splitB_le (l := l) (h := h) hCD
  rw [hA, hB] at h1
  have h2 : splitQ l C D * (D - C) ≤ splitQ l C D * (2 * s + 128) := Nat.mul_le_mul_left _ (by omega)
  have h3 := o.wide2
  have e : 3 * splitQ l C D * (2 * s + 128) = 3 * (splitQ l C D * (2 * s + 128)) := Nat.mul_assoc _ _ _
  rw [e]
  generalize splitQ l C D * (2 * s + 128) = y at *
  generalize splitQ l C D * (D - C) = z at *
  omega
end Go.Proofs.YthmaoohjhnpamaaDoor
