/- exps.Split and exps.Exp, plainly: an interval as whole units, so often ln 2, and what is left. Conditions: none. -/
import Derived.Test.YthmaoohjhnpamaaDoorValG
import Derived.Test.YthmaoohjhnpamaaDoorSerG
namespace Go.Proofs.YthmaoohjhnpamaaDoor
set_option maxRecDepth 100000
set_option linter.unusedVariables false

/-- A size as whole units of 2^-s, to below or to above. -/
def unitsN (M : Nat) (E : Int) (s : Nat) (above : Bool) : Nat :=
  if 0 ≤ E + (s : Int) then M * 2 ^ (E + (s : Int)).toNat else if above then cdiv M (2 ^ (-E - (s : Int)).toNat) else M / 2 ^ (-E - (s : Int)).toNat
theorem pw_toNat {t : Int} (h : 0 ≤ t) : ((2 ^ t.toNat : Nat) : Rat) = pw t := by
  rw [← pw_nat, Int.toNat_of_nonneg h]
theorem units_lo (M : Nat) (E : Int) (s : Nat) : ((unitsN M E s false : Nat) : Rat) ≤ (M : Rat) * pw (E + (s : Int)) ∧ (M : Rat) * pw (E + (s : Int)) ≤ ((unitsN M E s false : Nat) : Rat) + 1 := by
  unfold unitsN
  by_cases h : 0 ≤ E + (s : Int)
  · rw [if_pos h, Rat.natCast_mul, pw_toNat h]
    exact ⟨Rat.le_refl, by grind⟩
  · rw [if_neg h, if_neg (by decide)]
    obtain ⟨n, hn⟩ : ∃ n : Nat, E + (s : Int) = -(n : Int) := ⟨(-(E + (s : Int))).toNat, by omega⟩
    have hn2 : (-E - (s : Int)).toNat = n := by omega
    rw [hn, hn2]
    have h1 := rq_div_le M (2 ^ n)
    have h2 := rq_lt_div M (Nat.two_pow_pos n)
    have h3 := pw_unit n
    have hp := pw_pos (-(n : Int))
    have h4 := Rat.mul_le_mul_of_nonneg_right h1 (Rat.le_of_lt hp)
    have h5 := Rat.mul_le_mul_of_nonneg_right h2 (Rat.le_of_lt hp)
    generalize ((2 ^ n : Nat) : Rat) = P at *
    generalize pw (-(n : Int)) = p at *
    generalize ((M / 2 ^ n : Nat) : Rat) = q at *
    have e1 : q * P * p = q := by rw [Rat.mul_assoc, h3, Rat.mul_one]
    have e2 : (q * P + P) * p = q + 1 := by rw [Rat.add_mul, e1, h3]
    rw [e1] at h4
    rw [e2] at h5
    exact ⟨h4, h5⟩
theorem units_hi (M : Nat) (E : Int) (s : Nat) : (M : Rat) * pw (E + (s : Int)) ≤ ((unitsN M E s true : Nat) : Rat) ∧ ((unitsN M E s true : Nat) : Rat) ≤ (M : Rat) * pw (E + (s : Int)) + 1 := by
  unfold unitsN
  by_cases h : 0 ≤ E + (s : Int)
  · rw [if_pos h, Rat.natCast_mul, pw_toNat h]
    exact ⟨Rat.le_refl, by grind⟩
  · rw [if_neg h, if_pos rfl]
    obtain ⟨n, hn⟩ : ∃ n : Nat, E + (s : Int) = -(n : Int) := ⟨(-(E + (s : Int))).toNat, by omega⟩
    have hn2 : (-E - (s : Int)).toNat = n := by omega
    rw [hn, hn2]
    have h1 := rq_cdiv_ge M (Nat.two_pow_pos n)
    have h2 := rq_cdiv_lt M (Nat.two_pow_pos n)
    have h3 := pw_unit n
    have hp := pw_pos (-(n : Int))
    have h4 := Rat.mul_le_mul_of_nonneg_right h1 (Rat.le_of_lt hp)
    have h5 := Rat.mul_le_mul_of_nonneg_right h2 (Rat.le_of_lt hp)
    generalize ((2 ^ n : Nat) : Rat) = P at *
    generalize pw (-(n : Int)) = p at *
    generalize ((cdiv M (2 ^ n) : Nat) : Rat) = q at *
    have e1 : q * P * p = q := by rw [Rat.mul_assoc, h3, Rat.mul_one]
    have e2 : ((M : Rat) + P) * p = (M : Rat) * p + 1 := by rw [Rat.add_mul, h3]
    rw [e1] at h4 h5
    rw [e2] at h5
    exact ⟨h4, h5⟩
/-- A dyad to below, to above, as whole units with a sign. -/
def floorU (d : Dn) (s : Nat) : Int := sg d.neg (unitsN d.m d.e s d.neg)
def ceilU (d : Dn) (s : Nat) : Int := sg d.neg (unitsN d.m d.e s (!d.neg))
theorem qv_units (d : Dn) (s : Nat) : qv d * pw (s : Int) = if d.neg then -((d.m : Rat) * pw (d.e + (s : Int))) else (d.m : Rat) * pw (d.e + (s : Int)) := by
  unfold qv
  rw [pw_add]
  cases d.neg
  · rw [if_neg (by decide), if_neg (by decide)]; grind
  · rw [if_pos rfl, if_pos rfl]; grind
theorem sg_cast (n : Bool) (x : Nat) : ((sg n x : Int) : Rat) = if n then -(x : Rat) else (x : Rat) := by
  unfold sg
  cases n
  · rfl
  · rw [if_pos rfl, if_pos rfl, Rat.intCast_neg]; rfl
theorem floor_val (d : Dn) (s : Nat) : ((floorU d s : Int) : Rat) ≤ qv d * pw (s : Int) ∧ qv d * pw (s : Int) ≤ ((floorU d s : Int) : Rat) + 1 := by
  unfold floorU
  rw [qv_units, sg_cast]
  cases hn : d.neg
  · rw [if_neg (by decide), if_neg (by decide)]
    exact units_lo d.m d.e s
  · rw [if_pos rfl, if_pos rfl]
    have := units_hi d.m d.e s
    constructor <;> grind
theorem ceil_val (d : Dn) (s : Nat) : qv d * pw (s : Int) ≤ ((ceilU d s : Int) : Rat) ∧ ((ceilU d s : Int) : Rat) ≤ qv d * pw (s : Int) + 1 := by
  unfold ceilU
  rw [qv_units, sg_cast]
  cases hn : d.neg
  · rw [if_neg (by decide), if_neg (by decide)]
    exact units_hi d.m d.e s
  · rw [if_pos rfl, if_pos rfl]
    have := units_lo d.m d.e s
    rw [Bool.not_true]
    constructor <;> grind
theorem floor_ceil {a b : Dn} {s : Nat} (h : qv a ≤ qv b) : floorU a s ≤ ceilU b s := by
  have h1 := (floor_val a s).1
  have h2 := (ceil_val b s).1
  have h3 := Rat.mul_le_mul_of_nonneg_right h (Rat.le_of_lt (pw_pos (s : Int)))
  exact Rat.intCast_le_intCast.1 (by grind)
theorem ceil_floor (d : Dn) (s : Nat) : ceilU d s ≤ floorU d s + 1 := by
  unfold floorU ceilU sg unitsN
  have c1 : ∀ a b : Nat, a / b ≤ cdiv a b ∧ cdiv a b ≤ a / b + 1 := fun a b => by unfold cdiv; split <;> omega
  have := c1 d.m (2 ^ (-d.e - (s : Int)).toNat)
  generalize cdiv d.m (2 ^ (-d.e - (s : Int)).toNat) = x at *
  generalize d.m / 2 ^ (-d.e - (s : Int)).toNat = y at *
  generalize d.m * 2 ^ (d.e + (s : Int)).toNat = z at *
  by_cases h : 0 ≤ d.e + (s : Int)
  · rw [if_pos h, if_pos h]; omega
  · rw [if_neg h, if_neg h]
    cases d.neg
    · simp; omega
    · simp; omega

/-- exps.Split: so often ln 2 (between C and D units), and what is left of l and of h. -/
def splitQ (l : Int) (C D : Nat) : Nat := if l < 0 then cdiv l.natAbs C else l.natAbs / D
def splitK (l : Int) (C D : Nat) : Int := if l < 0 then -(splitQ l C D : Int) else (splitQ l C D : Int)
def splitA (l : Int) (C D : Nat) : Int := if l < 0 then l + (splitQ l C D * C : Nat) else l - (splitQ l C D * D : Nat)
def splitB (l h : Int) (C D : Nat) : Int := if l < 0 then h + (splitQ l C D * D : Nat) else h - (splitQ l C D * C : Nat)
theorem splitA_range {l : Int} {C D : Nat} (hC : 0 < C) (hCD : C ≤ D) : 0 ≤ splitA l C D ∧ splitA l C D < (D : Int) := by
  unfold splitA splitQ
  by_cases hl : l < 0
  · rw [if_pos hl, if_pos hl]
    have h1 := cdiv_ge l.natAbs hC
    have h2 := cdiv_lt l.natAbs hC
    generalize cdiv l.natAbs C * C = x at *
    omega
  · rw [if_neg hl, if_neg hl]
    have h1 := Nat.div_mul_le_self l.natAbs D
    have h2 := lt_div' l.natAbs (show 0 < D by omega)
    generalize l.natAbs / D * D = x at *
    omega
theorem splitA_le {l h : Int} {C D : Nat} (hlh : l ≤ h) (hCD : C ≤ D) : splitA l C D ≤ splitB l h C D := by
  unfold splitA splitB
  have h1 : splitQ l C D * C ≤ splitQ l C D * D := Nat.mul_le_mul_left _ hCD
  by_cases hl : l < 0
  · rw [if_pos hl, if_pos hl]; omega
  · rw [if_neg hl, if_neg hl]; omega
theorem splitB_le {l h : Int} {C D : Nat} (hCD : C ≤ D) : splitB l h C D = splitA l C D + (h - l) + ((splitQ l C D * (D - C) : Nat) : Int) := by
  unfold splitA splitB
  have h1 : splitQ l C D * (D - C) + splitQ l C D * C = splitQ l C D * D := by rw [← Nat.mul_add]; congr 1; omega
  by_cases hl : l < 0
  · rw [if_pos hl, if_pos hl]; omega
  · rw [if_neg hl, if_neg hl]; omega
theorem splitQ_abs (l : Int) (C D : Nat) : (splitK l C D).natAbs = splitQ l C D := by
  unfold splitK
  split <;> omega

/-- What is told of exp. -/
structure ExpIn (x lo hi : Rat) : Prop where
  lo : XL (-x) lo 1
  hi : XL x 1 hi
theorem ExpIn.wide {x lo hi lo' hi' : Rat} (k : ExpIn x lo hi) (p : 0 < lo') (hl : lo' ≤ lo) (hh : hi ≤ hi') : ExpIn x lo' hi' := ⟨k.lo.down p hl, k.hi.up hh⟩
/-- exp of k times ln 2, where ln 2 lies between c and d. -/
theorem exp_k {c d : Rat} (k : LnIn 2 c d) (q : Nat) : XL ((q : Rat) * c) 1 (pw (q : Int)) ∧ XL (-((q : Rat) * d)) (pw (q : Int)) 1 := by
  have h := k.pow q
  rw [pow_two] at h
  exact ⟨h.lo, h.hi⟩
theorem XL.inv {q a b : Rat} (ha : 0 < a) (hb : 0 < b) (hab : a * b = 1) {x : Rat} (h : XL q a x) : XL q 1 (x * b) := by
  have := h.scale hb
  rwa [hab] at this
theorem exp_lo {x A : Rat} {s L : Nat} {c d : Rat} {l : Int} {q : Nat} (hx : ((l : Int) : Rat) ≤ x * pw (s : Int)) (k : LnIn 2 (c * pw (-(s : Int))) (d * pw (-(s : Int)))) (hA : XL (-(A * pw (-(s : Int)))) ((L : Rat) * pw (-(s : Int))) 1) :
    (((l : Int) : Rat) = A + (q : Rat) * d → XL (-x) ((L : Rat) * pw (-(s : Int)) * pw (q : Int)) 1) ∧ (((l : Int) : Rat) = A - (q : Rat) * c → XL (-x) ((L : Rat) * pw (-(s : Int)) * pw (-(q : Int))) 1) := by
  have hu : pw (s : Int) * pw (-(s : Int)) = 1 := by rw [Rat.mul_comm]; exact pw_neg (s : Int)
  have hp := pw_pos (-(s : Int))
  have hx2 : ((l : Int) : Rat) * pw (-(s : Int)) ≤ x := by
    have := Rat.mul_le_mul_of_nonneg_right hx (Rat.le_of_lt hp)
    rwa [Rat.mul_assoc, hu, Rat.mul_one] at this
  obtain ⟨k1, k2⟩ := exp_k k q
  refine ⟨fun e => ?_, fun e => ?_⟩
  · have h := hA.mul k2
    rw [Rat.mul_one] at h
    refine h.mono ?_
    rw [e] at hx2
    grind
  · have k3 : XL ((q : Rat) * (c * pw (-(s : Int)))) (pw (-(q : Int))) 1 := by
      have h5 : pw (q : Int) * pw (-(q : Int)) = 1 := by rw [Rat.mul_comm]; exact pw_neg (q : Int)
      have := k1.scale (pw_pos (-(q : Int)))
      rwa [h5, Rat.one_mul] at this
    have h := hA.mul k3
    rw [Rat.mul_one] at h
    refine h.mono ?_
    rw [e] at hx2
    grind
theorem exp_hi {x B : Rat} {s H : Nat} {c d : Rat} {h : Int} {q : Nat} (hx : x * pw (s : Int) ≤ ((h : Int) : Rat)) (k : LnIn 2 (c * pw (-(s : Int))) (d * pw (-(s : Int)))) (hB : XL (B * pw (-(s : Int))) 1 ((H : Rat) * pw (-(s : Int)))) :
    (((h : Int) : Rat) = B + (q : Rat) * c → XL x 1 ((H : Rat) * pw (-(s : Int)) * pw (q : Int))) ∧ (((h : Int) : Rat) = B - (q : Rat) * d → XL x 1 ((H : Rat) * pw (-(s : Int)) * pw (-(q : Int)))) := by
  have hu : pw (s : Int) * pw (-(s : Int)) = 1 := by rw [Rat.mul_comm]; exact pw_neg (s : Int)
  have hp := pw_pos (-(s : Int))
  have hx2 : x ≤ ((h : Int) : Rat) * pw (-(s : Int)) := by
    have := Rat.mul_le_mul_of_nonneg_right hx (Rat.le_of_lt hp)
    rwa [Rat.mul_assoc, hu, Rat.mul_one] at this
  obtain ⟨k1, k2⟩ := exp_k k q
  refine ⟨fun e => ?_, fun e => ?_⟩
  · have h9 := hB.mul k1
    rw [Rat.mul_one] at h9
    refine h9.mono ?_
    rw [e] at hx2
    grind
  · have k3 : XL (-((q : Rat) * (d * pw (-(s : Int))))) 1 (pw (-(q : Int))) := by
      have h5 : pw (q : Int) * pw (-(q : Int)) = 1 := by rw [Rat.mul_comm]; exact pw_neg (q : Int)
      have := k2.scale (pw_pos (-(q : Int)))
      rwa [h5, Rat.one_mul] at this
    have h9 := hB.mul k3
    rw [Rat.mul_one] at h9
    refine h9.mono ?_
    rw [e] at hx2
    grind
/-- The interval that is told has exp of each end's number. -/
theorem exp_split {lo hi : Dn} {s C D A B L H : Nat} (k : LnIn 2 ((C : Rat) * pw (-(s : Int))) ((D : Rat) * pw (-(s : Int)))) (hA : splitA (floorU lo s) C D = (A : Int)) (hB : splitB (floorU lo s) (ceilU hi s) C D = (B : Int)) (hBS : B ≤ 2 ^ s) (o : ExOk A B s L H) :
    XL (-(qv lo)) ((L : Rat) * pw (splitK (floorU lo s) C D - (s : Int))) 1 ∧ XL (qv hi) 1 ((H : Rat) * pw (splitK (floorU lo s) C D - (s : Int))) := by
  have hSp := rq_nat_pos (Nat.two_pow_pos s)
  have hu := pw_unit s
  have hp := pw_pos (-(s : Int))
  have hL0 : 0 < (L : Rat) := rq_nat_pos (Nat.lt_of_lt_of_le (Nat.two_pow_pos s) o.low)
  have hx0 : ((2 ^ s : Nat) : Rat) * ((A : Rat) * pw (-(s : Int))) = (A : Rat) := by
    rw [Rat.mul_comm (A : Rat), ← Rat.mul_assoc, hu, Rat.one_mul]
  have hx1 : ((2 ^ s : Nat) : Rat) * ((B : Rat) * pw (-(s : Int))) = (B : Rat) := by
    rw [Rat.mul_comm (B : Rat), ← Rat.mul_assoc, hu, Rat.one_mul]
  have p0 : 0 ≤ (A : Rat) * pw (-(s : Int)) := Rat.mul_nonneg (rq_nat_nonneg A) (Rat.le_of_lt hp)
  have p1 : 0 ≤ (B : Rat) * pw (-(s : Int)) := Rat.mul_nonneg (rq_nat_nonneg B) (Rat.le_of_lt hp)
  have p2 : (B : Rat) * pw (-(s : Int)) ≤ 1 := by
    have := Rat.mul_le_mul_of_nonneg_right (rq_le hBS) (Rat.le_of_lt hp)
    rwa [hu] at this
  have a1 := o.lo _ hx0 p0
  have a2 := o.hi _ hx1 p1 p2
  have XA : XL (-((A : Rat) * pw (-(s : Int)))) ((L : Rat) * pw (-(s : Int))) 1 := by
    refine XL.neg_series (K := s + 2) p0 (Rat.mul_pos hL0 hp) ?_ (by decide)
    have := Rat.mul_le_mul_of_nonneg_right a1 (Rat.le_of_lt hp)
    rw [Rat.one_mul]
    have e : ((2 ^ s : Nat) : Rat) * exA ((A : Rat) * pw (-(s : Int))) (s + 2) * pw (-(s : Int)) = exA ((A : Rat) * pw (-(s : Int))) (s + 2) := by
      rw [Rat.mul_comm ((2 ^ s : Nat) : Rat), Rat.mul_assoc, hu, Rat.mul_one]
    rwa [e] at this
  have XB : XL ((B : Rat) * pw (-(s : Int))) 1 ((H : Rat) * pw (-(s : Int))) := by
    refine XL.of_series p1 (by decide) (fun K => ?_)
    have := Rat.mul_le_mul_of_nonneg_right (a2 K) (Rat.le_of_lt hp)
    rw [Rat.mul_one]
    have e : ((2 ^ s : Nat) : Rat) * exA ((B : Rat) * pw (-(s : Int))) K * pw (-(s : Int)) = exA ((B : Rat) * pw (-(s : Int))) K := by
      rw [Rat.mul_comm ((2 ^ s : Nat) : Rat), Rat.mul_assoc, hu, Rat.mul_one]
    rwa [e] at this
  have f1 := (floor_val lo s).1
  have f2 := (ceil_val hi s).1
  obtain ⟨q1, q2⟩ := exp_lo (q := splitQ (floorU lo s) C D) f1 k XA
  obtain ⟨q3, q4⟩ := exp_hi (q := splitQ (floorU lo s) C D) f2 k XB
  have cast2 : ∀ a b : Nat, (((a * b : Nat) : Int) : Rat) = (a : Rat) * (b : Rat) := fun a b => by
    show ((a * b : Nat) : Rat) = _
    rw [Rat.natCast_mul]
  unfold splitA at hA
  unfold splitB at hB
  unfold splitK
  by_cases hl : floorU lo s < 0
  · rw [if_pos hl] at hA hB ⊢
    rw [show -(splitQ (floorU lo s) C D : Int) - (s : Int) = -(s : Int) + -(splitQ (floorU lo s) C D : Int) by omega, pw_add, ← Rat.mul_assoc, ← Rat.mul_assoc]
    refine ⟨q2 ?_, q4 ?_⟩
    · have e : floorU lo s = (A : Int) - ((splitQ (floorU lo s) C D * C : Nat) : Int) := by omega
      conv => lhs; rw [e]
      rw [Rat.intCast_sub, cast2]; rfl
    · have e : ceilU hi s = (B : Int) - ((splitQ (floorU lo s) C D * D : Nat) : Int) := by omega
      rw [e, Rat.intCast_sub, cast2]; rfl
  · rw [if_neg hl] at hA hB ⊢
    rw [show (splitQ (floorU lo s) C D : Int) - (s : Int) = -(s : Int) + (splitQ (floorU lo s) C D : Int) by omega, pw_add, ← Rat.mul_assoc, ← Rat.mul_assoc]
    refine ⟨q1 ?_, q3 ?_⟩
    · have e : floorU lo s = (A : Int) + ((splitQ (floorU lo s) C D * D : Nat) : Int) := by omega
      conv => lhs; rw [e]
      rw [Rat.intCast_add, cast2]; rfl
    · have e : ceilU hi s = (B : Int) + ((splitQ (floorU lo s) C D * C : Nat) : Int) := by omega
      rw [e, Rat.intCast_add, cast2]; rfl
end Go.Proofs.YthmaoohjhnpamaaDoor
