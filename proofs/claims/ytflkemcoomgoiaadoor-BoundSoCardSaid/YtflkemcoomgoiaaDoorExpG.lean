/- exps.Split and exps.Exp, plainly: an interval as whole units, so often ln 2, and what is left. Conditions: none. -/
import Derived.Test.YtflkemcoomgoiaaDoorValG
import Derived.Test.YtflkemcoomgoiaaDoorSerG
import Derived.Test.YtflkemcoomgoiaaDoorLogTell
import Derived.Test.YtflkemcoomgoiaaDoorDyG
namespace Go.Proofs.YtflkemcoomgoiaaDoor
set_option maxRecDepth 100000
set_option linter.unusedVariables false

/-- A size as whole units of 2^-s, to below or to above. -/
def unitsN (M : Nat) (E : Int) (s : Nat) (above : Bool) : Nat :=
  if 0 ≤ E + (s : Int) then M * 2 ^ (E + (s : Int)).toNat else if above then cdiv M (2 ^ (-E - (s : Int)).toNat) else M / 2 ^ (-E - (s : Int)).toNat
theorem pw_toNat {t : Int} (h : 0 ≤ t) : ((2 ^ t.toNat : Nat) : Rat) = pw t := by
  rw [← pw_nat, Int.toNat_of_nonneg h]
theorem units_lo (M : Nat) (E : Int) (s : Nat) : ((unitsN M E s false : Nat) : Rat) ≤ (M : Rat) * pw (E + (s : Int)) ∧ (M : Rat) * pw (E + (s : Int)) ≤ ((unitsN M E s false : Nat) : Rat) + 1 := by
  unfold unitsN
  by_cases h : 0 ≤ E + (s : Int)
  · rw [if_pos h, Rat.natCast_mul, pw_toNat h]
    exact ⟨Rat.le_refl, by grind⟩
  · rw [if_neg h, if_neg (by decide)]
    obtain ⟨n, hn⟩ : ∃ n : Nat, E + (s : Int) = -(n : Int) := ⟨(-(E + (s : Int))).toNat, by omega⟩
    have hn2 : (-E - (s : Int)).toNat = n := by omega
    rw [hn, hn2]
    have h1 := rq_div_le M (2 ^ n)
    have h2 := rq_lt_div M (Nat.two_pow_pos n)
    have h3 := pw_unit n
    have hp := pw_pos (-(n : Int))
    have h4 := Rat.mul_le_mul_of_nonneg_right h1 (Rat.le_of_lt hp)
    have h5 := Rat.mul_le_mul_of_nonneg_right h2 (Rat.le_of_lt hp)
    generalize ((2 ^ n : Nat) : Rat) = P at *
    generalize pw (-(n : Int)) = p at *
    generalize ((M / 2 ^ n : Nat) : Rat) = q at *
    have e1 : q * P * p = q := by rw [Rat.mul_assoc, h3, Rat.mul_one]
    have e2 : (q * P + P) * p = q + 1 := by rw [Rat.add_mul, e1, h3]
    rw [e1] at h4
    rw [e2] at h5
    exact ⟨h4, h5⟩
theorem units_hi (M : Nat) (E : Int) (s : Nat) : (M : Rat) * pw (E + (s : Int)) ≤ ((unitsN M E s true : Nat) : Rat) ∧ ((unitsN M E s true : Nat) : Rat) ≤ (M : Rat) * pw (E + (s : Int)) + 1 := by
  unfold unitsN
  by_cases h : 0 ≤ E + (s : Int)
  · rw [if_pos h, Rat.natCast_mul, pw_toNat h]
    exact ⟨Rat.le_refl, by grind⟩
  · rw [if_neg h, if_pos rfl]
    obtain ⟨n, hn⟩ : ∃ n : Nat, E + (s : Int) = -(n : Int) := ⟨(-(E + (s : Int))).toNat, by omega⟩
    have hn2 : (-E - (s : Int)).toNat = n := by omega
    rw [hn, hn2]
    have h1 := rq_cdiv_ge M (Nat.two_pow_pos n)
    have h2 := rq_cdiv_lt M (Nat.two_pow_pos n)
    have h3 := pw_unit n
    have hp := pw_pos (-(n : Int))
    have h4 := Rat.mul_le_mul_of_nonneg_right h1 (Rat.le_of_lt hp)
    have h5 := Rat.mul_le_mul_of_nonneg_right h2 (Rat.le_of_lt hp)
    generalize ((2 ^ n : Nat) : Rat) = P at *
    generalize pw (-(n : Int)) = p at *
    generalize ((cdiv M (2 ^ n) : Nat) : Rat) = q at *
    have e1 : q * P * p = q := by rw [Rat.mul_assoc, h3, Rat.mul_one]
    have e2 : ((M : Rat) + P) * p = (M : Rat) * p + 1 := by rw [Rat.add_mul, h3]
    rw [e1] at h4 h5
    rw [e2] at h5
    exact ⟨h4, h5⟩
/-- A dyad to below, to above, as whole units with a sign. -/
def floorU (d : Dn) (s : Nat) : Int := sg d.neg (unitsN d.m d.e s d.neg)
def ceilU (d : Dn) (s : Nat) : Int := sg d.neg (unitsN d.m d.e s (!d.neg))
theorem qv_units (d : Dn) (s : Nat) : qv d * pw (s : Int) = if d.neg then -((d.m : Rat) * pw (d.e + (s : Int))) else (d.m : Rat) * pw (d.e + (s : Int)) := by
  unfold qv
  rw [pw_add]
  cases d.neg
  · rw [if_neg (by decide), if_neg (by decide)]; grind
  · rw [if_pos rfl, if_pos rfl]; grind
theorem sg_cast (n : Bool) (x : Nat) : ((sg n x : Int) : Rat) = if n then -(x : Rat) else (x : Rat) := by
  unfold sg
  cases n
  · rfl
  · rw [if_pos rfl, if_pos rfl, Rat.intCast_neg]; rfl
theorem floor_val (d : Dn) (s : Nat) : ((floorU d s : Int) : Rat) ≤ qv d * pw (s : Int) ∧ qv d * pw (s : Int) ≤ ((floorU d s : Int) : Rat) + 1 := by
  unfold floorU
  rw [qv_units, sg_cast]
  cases hn : d.neg
  · rw [if_neg (by decide), if_neg (by decide)]
    exact units_lo d.m d.e s
  · rw [if_pos rfl, if_pos rfl]
    have := units_hi d.m d.e s
    constructor <;> grind
theorem ceil_val (d : Dn) (s : Nat) : qv d * pw (s : Int) ≤ ((ceilU d s : Int) : Rat) ∧ ((ceilU d s : Int) : Rat) ≤ qv d * pw (s : Int) + 1 := by
  unfold ceilU
  rw [qv_units, sg_cast]
  cases hn : d.neg
  · rw [if_neg (by decide), if_neg (by decide)]
    exact units_hi d.m d.e s
  · rw [if_pos rfl, if_pos rfl]
    have := units_lo d.m d.e s
    rw [Bool.not_true]
    constructor <;> grind
theorem floor_ceil {a b : Dn} {s : Nat} (h : qv a ≤ qv b) : floorU a s ≤ ceilU b s := by
  have h1 := (floor_val a s).1
  have h2 := (ceil_val b s).1
  have h3 := Rat.mul_le_mul_of_nonneg_right h (Rat.le_of_lt (pw_pos (s : Int)))
  exact Rat.intCast_le_intCast.1 (by grind)
theorem ceil_floor (d : Dn) (s : Nat) : ceilU d s ≤ floorU d s + 1 := by
  unfold floorU ceilU sg unitsN
  have c1 : ∀ a b : Nat, a / b ≤ cdiv a b ∧ cdiv a b ≤ a / b + 1 := fun a b => by unfold cdiv; split <;> omega
  have := c1 d.m (2 ^ (-d.e - (s : Int)).toNat)
  generalize cdiv d.m (2 ^ (-d.e - (s : Int)).toNat) = x at *
  generalize d.m / 2 ^ (-d.e - (s : Int)).toNat = y at *
  generalize d.m * 2 ^ (d.e + (s : Int)).toNat = z at *
  by_cases h : 0 ≤ d.e + (s : Int)
  · rw [if_pos h, if_pos h]; omega
  · rw [if_neg h, if_neg h]
    cases d.neg
    · simp; omega
    · simp; omega

/-- exps.Split: so often ln 2 (between C and D units), and what is left of l and of h. -/
def splitQ (l : Int) (C D : Nat) : Nat := if l < 0 then cdiv l.natAbs C else l.natAbs / D
def splitK (l : Int) (C D : Nat) : Int := if l < 0 then -(splitQ l C D : Int) else (splitQ l C D : Int)
def splitA (l : Int) (C D : Nat) : Int := if l < 0 then l + (splitQ l C D * C : Nat) else l - (splitQ l C D * D : Nat)
def splitB (l h : Int) (C D : Nat) : Int := if l < 0 then h + (splitQ l C D * D : Nat) else h - (splitQ l C D * C : Nat)
theorem splitA_range {l : Int} {C D : Nat} (hC : 0 < C) (hCD : C ≤ D) : 0 ≤ splitA l C D ∧ splitA l C D < (D : Int) := by
  unfold splitA splitQ
  by_cases hl : l < 0
  · rw [if_pos hl, if_pos hl]
    have h1 := cdiv_ge l.natAbs hC
    have h2 := cdiv_lt l.natAbs hC
    generalize cdiv l.natAbs C * C = x at *
    omega
  · rw [if_neg hl, if_neg hl]
    have h1 := Nat.div_mul_le_self l.natAbs D
    have h2 := lt_div' l.natAbs (show 0 < D by omega)
    generalize l.natAbs / D * D = x at *
    omega
theorem splitA_le {l h : Int} {C D : Nat} (hlh : l ≤ h) (hCD : C ≤ D) : splitA l C D ≤ splitB l h C D := by
  unfold splitA splitB
  have h1 : splitQ l C D * C ≤ splitQ l C D * D := Nat.mul_le_mul_left _ hCD
  by_cases hl : l < 0
  · rw [if_pos hl, if_pos hl]; omega
  · rw [if_neg hl, if_neg hl]; omega
theorem splitB_le {l h : Int} {C D : Nat} (hCD : C ≤ D) : splitB l h C D = splitA l C D + (h - l) + ((splitQ l C D * (D - C) : Nat) : Int) := by
  unfold splitA splitB
  have h1 : splitQ l C D * (D - C) + splitQ l C D * C = splitQ l C D * D := by rw [← Nat.mul_add]; congr 1; omega
  by_cases hl : l < 0
  · rw [if_pos hl, if_pos hl]; omega
  · rw [if_neg hl, if_neg hl]; omega
theorem splitQ_abs (l : Int) (C D : Nat) : (splitK l C D).natAbs = splitQ l C D := by
  unfold splitK
  split <;> omega

/-- What is told of exp. -/
structure ExpIn (x lo hi : Rat) : Prop where
  lo : XL (-x) lo 1
  hi : XL x 1 hi
theorem ExpIn.wide {x lo hi lo' hi' : Rat} (k : ExpIn x lo hi) (p : 0 < lo') (hl : lo' ≤ lo) (hh : hi ≤ hi') : ExpIn x lo' hi' := ⟨k.lo.down p hl, k.hi.up hh⟩
/-- exp of k times ln 2, where ln 2 lies between c and d. -/
theorem exp_k {c d : Rat} (k : LnIn 2 c d) (q : Nat) : XL ((q : Rat) * c) 1 (pw (q : Int)) ∧ XL (-((q : Rat) * d)) (pw (q : Int)) 1 := by
  have h := k.pow q
  rw [pow_two] at h
  exact ⟨h.lo, h.hi⟩
theorem XL.inv {q a b : Rat} (ha : 0 < a) (hb : 0 < b) (hab : a * b = 1) {x : Rat} (h : XL q a x) : XL q 1 (x * b) := by
  have := h.scale hb
  rwa [hab] at this
theorem exp_lo {x A : Rat} {s L : Nat} {c d : Rat} {l : Int} {q : Nat} (hx : ((l : Int) : Rat) ≤ x * pw (s : Int)) (k : LnIn 2 (c * pw (-(s : Int))) (d * pw (-(s : Int)))) (hA : XL (-(A * pw (-(s : Int)))) ((L : Rat) * pw (-(s : Int))) 1) :
    (((l : Int) : Rat) = A + (q : Rat) * d → XL (-x) ((L : Rat) * pw (-(s : Int)) * pw (q : Int)) 1) ∧ (((l : Int) : Rat) = A - (q : Rat) * c → XL (-x) ((L : Rat) * pw (-(s : Int)) * pw (-(q : Int))) 1) := by
  have hu : pw (s : Int) * pw (-(s : Int)) = 1 := by rw [Rat.mul_comm]; exact pw_neg (s : Int)
  have hp := pw_pos (-(s : Int))
  have hx2 : ((l : Int) : Rat) * pw (-(s : Int)) ≤ x := by
    have := Rat.mul_le_mul_of_nonneg_right hx (Rat.le_of_lt hp)
    rwa [Rat.mul_assoc, hu, Rat.mul_one] at this
  obtain ⟨k1, k2⟩ := exp_k k q
  refine ⟨fun e => ?_, fun e => ?_⟩
  · have h := hA.mul k2
    rw [Rat.mul_one] at h
    refine h.mono ?_
    rw [e] at hx2
    grind
  · have k3 : XL ((q : Rat) * (c * pw (-(s : Int)))) (pw (-(q : Int))) 1 := by
      have h5 : pw (q : Int) * pw (-(q : Int)) = 1 := by rw [Rat.mul_comm]; exact pw_neg (q : Int)
      have := k1.scale (pw_pos (-(q : Int)))
      rwa [h5, Rat.one_mul] at this
    have h := hA.mul k3
    rw [Rat.mul_one] at h
    refine h.mono ?_
    rw [e] at hx2
    grind
theorem exp_hi {x B : Rat} {s H : Nat} {c d : Rat} {h : Int} {q : Nat} (hx : x * pw (s : Int) ≤ ((h : Int) : Rat)) (k : LnIn 2 (c * pw (-(s : Int))) (d * pw (-(s : Int)))) (hB : XL (B * pw (-(s : Int))) 1 ((H : Rat) * pw (-(s : Int)))) :
    (((h : Int) : Rat) = B + (q : Rat) * c → XL x 1 ((H : Rat) * pw (-(s : Int)) * pw (q : Int))) ∧ (((h : Int) : Rat) = B - (q : Rat) * d → XL x 1 ((H : Rat) * pw (-(s : Int)) * pw (-(q : Int)))) := by
  have hu : pw (s : Int) * pw (-(s : Int)) = 1 := by rw [Rat.mul_comm]; exact pw_neg (s : Int)
  have hp := pw_pos (-(s : Int))
  have hx2 : x ≤ ((h : Int) : Rat) * pw (-(s : Int)) := by
    have := Rat.mul_le_mul_of_nonneg_right hx (Rat.le_of_lt hp)
    rwa [Rat.mul_assoc, hu, Rat.mul_one] at this
  obtain ⟨k1, k2⟩ := exp_k k q
  refine ⟨fun e => ?_, fun e => ?_⟩
  · have h9 := hB.mul k1
    rw [Rat.mul_one] at h9
    refine h9.mono ?_
    rw [e] at hx2
    grind
  · have k3 : XL (-((q : Rat) * (d * pw (-(s : Int))))) 1 (pw (-(q : Int))) := by
      have h5 : pw (q : Int) * pw (-(q : Int)) = 1 := by rw [Rat.mul_comm]; exact pw_neg (q : Int)
      have := k2.scale (pw_pos (-(q : Int)))
      rwa [h5, Rat.one_mul] at this
    have h9 := hB.mul k3
    rw [Rat.mul_one] at h9
    refine h9.mono ?_
    rw [e] at hx2
    grind
/-- The interval that is told has exp of each end's number. -/
theorem exp_split {lo hi : Dn} {s C D A B L H : Nat} (k : LnIn 2 ((C : Rat) * pw (-(s : Int))) ((D : Rat) * pw (-(s : Int)))) (hA : splitA (floorU lo s) C D = (A : Int)) (hB : splitB (floorU lo s) (ceilU hi s) C D = (B : Int)) (hBS : B ≤ 2 ^ s) (o : ExOk A B s L H) :
    XL (-(qv lo)) ((L : Rat) * pw (splitK (floorU lo s) C D - (s : Int))) 1 ∧ XL (qv hi) 1 ((H : Rat) * pw (splitK (floorU lo s) C D - (s : Int))) := by
  have hSp := rq_nat_pos (Nat.two_pow_pos s)
  have hu := pw_unit s
  have hp := pw_pos (-(s : Int))
  have hL0 : 0 < (L : Rat) := rq_nat_pos (Nat.lt_of_lt_of_le (Nat.two_pow_pos s) o.low)
  have hx0 : ((2 ^ s : Nat) : Rat) * ((A : Rat) * pw (-(s : Int))) = (A : Rat) := by
    rw [Rat.mul_comm (A : Rat), ← Rat.mul_assoc, hu, Rat.one_mul]
  have hx1 : ((2 ^ s : Nat) : Rat) * ((B : Rat) * pw (-(s : Int))) = (B : Rat) := by
    rw [Rat.mul_comm (B : Rat), ← Rat.mul_assoc, hu, Rat.one_mul]
  have p0 : 0 ≤ (A : Rat) * pw (-(s : Int)) := Rat.mul_nonneg (rq_nat_nonneg A) (Rat.le_of_lt hp)
  have p1 : 0 ≤ (B : Rat) * pw (-(s : Int)) := Rat.mul_nonneg (rq_nat_nonneg B) (Rat.le_of_lt hp)
  have p2 : (B : Rat) * pw (-(s : Int)) ≤ 1 := by
    have := Rat.mul_le_mul_of_nonneg_right (rq_le hBS) (Rat.le_of_lt hp)
    rwa [hu] at this
  have a1 := o.lo _ hx0 p0
  have a2 := o.hi _ hx1 p1 p2
  have XA : XL (-((A : Rat) * pw (-(s : Int)))) ((L : Rat) * pw (-(s : Int))) 1 := by
    refine XL.neg_series (K := s + 2) p0 (Rat.mul_pos hL0 hp) ?_ (by decide)
    have := Rat.mul_le_mul_of_nonneg_right a1 (Rat.le_of_lt hp)
    rw [Rat.one_mul]
    have e : ((2 ^ s : Nat) : Rat) * exA ((A : Rat) * pw (-(s : Int))) (s + 2) * pw (-(s : Int)) = exA ((A : Rat) * pw (-(s : Int))) (s + 2) := by
      rw [Rat.mul_comm ((2 ^ s : Nat) : Rat), Rat.mul_assoc, hu, Rat.mul_one]
    rwa [e] at this
  have XB : XL ((B : Rat) * pw (-(s : Int))) 1 ((H : Rat) * pw (-(s : Int))) := by
    refine XL.of_series p1 (by decide) (fun K => ?_)
    have := Rat.mul_le_mul_of_nonneg_right (a2 K) (Rat.le_of_lt hp)
    rw [Rat.mul_one]
    have e : ((2 ^ s : Nat) : Rat) * exA ((B : Rat) * pw (-(s : Int))) K * pw (-(s : Int)) = exA ((B : Rat) * pw (-(s : Int))) K := by
      rw [Rat.mul_comm ((2 ^ s : Nat) : Rat), Rat.mul_assoc, hu, Rat.mul_one]
    rwa [e] at this
  have f1 := (floor_val lo s).1
  have f2 := (ceil_val hi s).1
  obtain ⟨q1, q2⟩ := exp_lo (q := splitQ (floorU lo s) C D) f1 k XA
  obtain ⟨q3, q4⟩ := exp_hi (q := splitQ (floorU lo s) C D) f2 k XB
  have cast2 : ∀ a b : Nat, (((a * b : Nat) : Int) : Rat) = (a : Rat) * (b : Rat) := fun a b => by
    show ((a * b : Nat) : Rat) = _
    rw [Rat.natCast_mul]
  unfold splitA at hA
  unfold splitB at hB
  unfold splitK
  by_cases hl : floorU lo s < 0
  · rw [if_pos hl] at hA hB ⊢
    rw [show -(splitQ (floorU lo s) C D : Int) - (s : Int) = -(s : Int) + -(splitQ (floorU lo s) C D : Int) by omega, pw_add, ← Rat.mul_assoc, ← Rat.mul_assoc]
    refine ⟨q2 ?_, q4 ?_⟩
    · have e : floorU lo s = (A : Int) - ((splitQ (floorU lo s) C D * C : Nat) : Int) := by omega
      conv => lhs; rw [e]
      rw [Rat.intCast_sub, cast2]; rfl
    · have e : ceilU hi s = (B : Int) - ((splitQ (floorU lo s) C D * D : Nat) : Int) := by omega
      rw [e, Rat.intCast_sub, cast2]; rfl
  · rw [if_neg hl] at hA hB ⊢
    rw [show (splitQ (floorU lo s) C D : Int) - (s : Int) = -(s : Int) + (splitQ (floorU lo s) C D : Int) by omega, pw_add, ← Rat.mul_assoc, ← Rat.mul_assoc]
    refine ⟨q1 ?_, q3 ?_⟩
    · have e : floorU lo s = (A : Int) + ((splitQ (floorU lo s) C D * D : Nat) : Int) := by omega
      conv => lhs; rw [e]
      rw [Rat.intCast_add, cast2]; rfl
    · have e : ceilU hi s = (B : Int) + ((splitQ (floorU lo s) C D * C : Nat) : Int) := by omega
      rw [e, Rat.intCast_add, cast2]; rfl
end Go.Proofs.YtflkemcoomgoiaaDoor

/- exps.Split refuses nothing of a middle size; how wide exps.Exp's answer is: plainly. Conditions: none. -/
namespace Go.Proofs.YtflkemcoomgoiaaDoor
set_option maxRecDepth 100000
set_option linter.unusedVariables false

theorem exp_23 : XL (2 / 3) 1 2 := by
  refine XL.of_series (by decide +kernel) (by decide) (fun K => ?_)
  rw [Rat.mul_one]
  refine Rat.le_trans (exA_bound (x := 2 / 3) (by decide +kernel) (by decide +kernel) (k := 6) (by decide) K) ?_
  decide +kernel
theorem exp_710 : XL (-(7 / 10)) 2 1 := by
  refine XL.neg_series (K := 6) (by decide +kernel) (by decide) ?_ (by decide)
  rw [Rat.one_mul]
  decide +kernel
/-- ln 2's ends. -/
theorem ln2_ends {s C D : Nat} (k : LnIn 2 ((C : Rat) * pw (-(s : Int))) ((D : Rat) * pw (-(s : Int)))) : 10 * C ≤ 7 * 2 ^ s ∧ 2 * 2 ^ s ≤ 3 * D := by
  have h1 := k.lo.le_of exp_710
  have h2 := exp_23.le_of k.hi
  have hu := pw_unit s
  have hS := rq_nat_pos (Nat.two_pow_pos s)
  constructor
  · refine rq_unle ?_
    rw [Rat.natCast_mul, Rat.natCast_mul, show ((10 : Nat) : Rat) = 10 from rfl, show ((7 : Nat) : Rat) = 7 from rfl]
    have h3 := Rat.mul_le_mul_of_nonneg_right h1 (Rat.le_of_lt hS)
    rw [Rat.mul_assoc, Rat.mul_comm (pw _), hu, Rat.mul_one] at h3
    grind
  · refine rq_unle ?_
    rw [Rat.natCast_mul, Rat.natCast_mul, show ((2 : Nat) : Rat) = 2 from rfl, show ((3 : Nat) : Rat) = 3 from rfl]
    have h3 := Rat.mul_le_mul_of_nonneg_right h2 (Rat.le_of_lt hS)
    rw [Rat.mul_assoc (D : Rat), Rat.mul_comm (pw _), hu, Rat.mul_one] at h3
    grind
theorem two_s : ∀ j : Nat, 2 * (32 + j) + 128 ≤ 2 ^ (8 + j)
  | 0 => by decide
  | j + 1 => by
    have := two_s j
    rw [show 8 + (j + 1) = (8 + j) + 1 by omega, Nat.pow_succ]
    omega
theorem splitQ_le {l : Int} {C D : Nat} (hC : 0 < C) (hCD : C ≤ D) (h : l.natAbs ≤ 8192 * C) : splitQ l C D ≤ 8192 := by
  unfold splitQ
  split
  · exact cdiv_le_of hC h
  · exact Nat.le_of_lt_succ ((Nat.div_lt_iff_lt_mul (show 0 < D by omega)).2 (by
      have h1 : 8192 * C ≤ 8192 * D := Nat.mul_le_mul_left _ hCD
      show l.natAbs < 8193 * D
      omega))
/-- Nothing of a middle size is refused. -/
theorem split_fits {l h : Int} {s C D : Nat} (s1 : 32 ≤ s) (k : LnIn 2 ((C : Rat) * pw (-(s : Int))) ((D : Rat) * pw (-(s : Int)))) (hCD : C ≤ D) (hw : D ≤ C + (2 * s + 128)) (hlh : l ≤ h) (hl : l.natAbs ≤ 4096 * 2 ^ s) (hh : (h - l) * 8 ≤ ((2 ^ s : Nat) : Int)) :
    splitB l h C D ≤ ((2 ^ s : Nat) : Int) := by
  obtain ⟨e1, e2⟩ := ln2_ends k
  obtain ⟨j, rfl⟩ : ∃ j, s = 32 + j := ⟨s - 32, by omega⟩
  have h2 := two_s j
  have e3 : 2 ^ (32 + j) = 16777216 * 2 ^ (8 + j) := by
    rw [show 32 + j = 24 + (8 + j) by omega, Nat.pow_add]
  rw [e3] at e1 e2 hl hh ⊢
  clear e3 k
  generalize 2 ^ (8 + j) = x at *
  have hC : 0 < C := by omega
  have hC2 : 16777216 * x ≤ 2 * C := by omega
  have hq := splitQ_le hC hCD (show l.natAbs ≤ 8192 * C by omega)
  rw [splitB_le hCD]
  obtain ⟨a1, a2⟩ := splitA_range (l := l) hC hCD
  have hm : splitQ l C D * (D - C) ≤ 8192 * (2 * (32 + j) + 128) := Nat.mul_le_mul hq (by omega)
  generalize splitQ l C D * (D - C) = y at *
  generalize splitA l C D = z at *
  omega
/-- How wide the answer is. -/
theorem exp_thin {l h : Int} {s C D A B L H : Nat} (hCD : C ≤ D) (hw : D ≤ C + (2 * s + 128)) (hlh : h ≤ l + 1) (hA : splitA l C D = (A : Int)) (hB : splitB l h C D = (B : Int)) (o : ExOk A B s L H) :
    H ≤ L + (8 * s + 131 + 3 * (splitK l C D).natAbs * (2 * s + 128)) := by
  rw [splitQ_abs]
  have h1 := splitB_le (l := l) (h := h) hCD
  rw [hA, hB] at h1
  have h2 : splitQ l C D * (D - C) ≤ splitQ l C D * (2 * s + 128) := Nat.mul_le_mul_left _ (by omega)
  have h3 := o.wide2
  have e : 3 * splitQ l C D * (2 * s + 128) = 3 * (splitQ l C D * (2 * s + 128)) := Nat.mul_assoc _ _ _
  rw [e]
  generalize splitQ l C D * (2 * s + 128) = y at *
  generalize splitQ l C D * (D - C) = z at *
  omega
end Go.Proofs.YtflkemcoomgoiaaDoor

/- What exps.Split needs of sizes: plainly. Conditions: none. -/
namespace Go.Proofs.YtflkemcoomgoiaaDoor
set_option maxRecDepth 100000
set_option linter.unusedVariables false

theorem three_s : ∀ j : Nat, 96 * (8 + j + 64) ≤ 29 * 2 ^ (8 + j)
  | 0 => by decide
  | j + 1 => by
    have := three_s j
    rw [show 8 + (j + 1) = (8 + j) + 1 by omega, Nat.pow_succ]
    omega
/-- ln 2 isn't nought at any scale. -/
theorem ln2_pos8 {s L H : Nat} (o : AtOk 1 3 s L H) (s1 : 8 ≤ s) : 2 ^ s ≤ 32 * L ∧ 0 < L := by
  have e : (1 / 3 : Rat) * ((3 : Nat) : Rat) = ((1 : Nat) : Rat) := by decide +kernel
  have h1 := o.hi _ e (by decide +kernel) (by decide +kernel) 1
  have e1 : atA (1 / 3) 1 = 1 / 3 := by decide +kernel
  rw [e1] at h1
  have hw := o.wide
  have h2 : 2 ^ s ≤ 3 * H := by
    refine Rat.natCast_le_natCast.1 ?_
    rw [Rat.natCast_mul]
    show _ ≤ (3 : Rat) * _
    grind
  obtain ⟨j, rfl⟩ : ∃ j, s = 8 + j := ⟨s - 8, by omega⟩
  have h3 := three_s j
  have hp := Nat.two_pow_pos (8 + j)
  generalize 2 ^ (8 + j) = x at *
  omega
theorem units_le {M : Nat} {E : Int} {s : Nat} {ab : Bool} (h : M = 0 ∨ (bitN M : Int) - 1 + E < 12) : unitsN M E s ab ≤ 2 ^ (12 + s) := by
  rcases h with h | h
  · subst h
    have h0 : ∀ a, cdiv 0 a = 0 := cdiv_zero
    unfold unitsN
    split
    · rw [Nat.zero_mul]; exact Nat.zero_le _
    · split
      · rw [h0]; exact Nat.zero_le _
      · rw [Nat.zero_div]; exact Nat.zero_le _
  · have hb := bitN_lt M
    unfold unitsN
    by_cases h0 : 0 ≤ E + (s : Int)
    · rw [if_pos h0]
      have h1 := Nat.mul_le_mul_right (2 ^ (E + (s : Int)).toNat) (Nat.le_of_lt hb)
      rw [← Nat.pow_add] at h1
      exact Nat.le_trans h1 (Nat.pow_le_pow_right (by decide) (by omega))
    · rw [if_neg h0]
      have key : M ≤ 2 ^ (12 + s) * 2 ^ (-E - (s : Int)).toNat := by
        rw [← Nat.pow_add]
        exact Nat.le_trans (Nat.le_of_lt hb) (Nat.pow_le_pow_right (by decide) (by omega))
      split
      · exact cdiv_le_of (Nat.two_pow_pos _) key
      · exact Nat.le_trans (div_le_cdiv _ _) (cdiv_le_of (Nat.two_pow_pos _) key)
/-- What exps.Split reckons with: sizes. -/
theorem split_sizes {l : Int} {s C D L : Nat} (hC : C = L + L) (hCD : C ≤ D) (h32 : 2 ^ s ≤ 32 * L) (hL : 0 < L) (hl : l.natAbs ≤ 2 ^ (12 + s)) : splitQ l C D ≤ 65536 := by
  have hl2 : l.natAbs ≤ 65536 * C := by
    rw [Nat.pow_add] at hl
    have : 2 ^ 12 * 2 ^ s ≤ 2 ^ 12 * (32 * L) := Nat.mul_le_mul_left _ h32
    generalize 2 ^ s = x at *
    omega
  unfold splitQ
  split
  · exact cdiv_le_of (by omega) hl2
  · exact Nat.le_of_lt_succ ((Nat.div_lt_iff_lt_mul (show 0 < D by omega)).2 (by
      have h1 : 65536 * C ≤ 65536 * D := Nat.mul_le_mul_left _ hCD
      show l.natAbs < 65537 * D
      omega))
theorem up_cdiv {A B U : Nat} (h : A / B + (if A % B = 0 then 0 else 1) = U) : cdiv A B = U := by
  rw [← h]
  unfold cdiv
  split <;> simp_all
end Go.Proofs.YtflkemcoomgoiaaDoor

/- exps.Exp by its values; what of a logarithm's interval may be split: plainly. Conditions: none. -/
namespace Go.Proofs.YtflkemcoomgoiaaDoor
set_option maxRecDepth 100000
set_option linter.unusedVariables false

/-- What exps.Exp tells, by values. -/
theorem exp_told {lo hi : Dn} {s L H A B Le He m1 m2 : Nat} {n1 n2 : Bool} {f1 f2 : Int} (s2 : s ≤ 8900) (o : AtOk 1 3 s L H) (hA : splitA (floorU lo s) (L + L) (H + H) = (A : Int)) (hB : splitB (floorU lo s) (ceilU hi s) (L + L) (H + H) = (B : Int)) (hBS : B ≤ 2 ^ s) (oe : ExOk A B s Le He)
    (hk : (splitK (floorU lo s) (L + L) (H + H)).natAbs ≤ 65536)
    (qa : bareD ⟨false, Le, -((s : Int) - splitK (floorU lo s) (L + L) (H + H))⟩ = ⟨n1, m1, f1⟩) (qb : bareD ⟨false, He, -((s : Int) - splitK (floorU lo s) (L + L) (H + H))⟩ = ⟨n2, m2, f2⟩) :
    XL (-(qv lo)) (qv ⟨n1, m1, f1⟩) 1 ∧ XL (qv hi) 1 (qv ⟨n2, m2, f2⟩) := by
  have h2 := ln_two o
  have e2 : ∀ x : Nat, 2 * (x : Rat) = ((x + x : Nat) : Rat) := fun x => by rw [Rat.natCast_add]; grind
  rw [e2, e2] at h2
  obtain ⟨h3, h4⟩ := exp_split h2 hA hB hBS oe
  have v1 := qv_bare (d := ⟨false, Le, -((s : Int) - splitK (floorU lo s) (L + L) (H + H))⟩) (by dsimp only; omega) (by dsimp only; omega)
  have v2 := qv_bare (d := ⟨false, He, -((s : Int) - splitK (floorU lo s) (L + L) (H + H))⟩) (by dsimp only; omega) (by dsimp only; omega)
  rw [qa, qv_pos, show -((s : Int) - splitK (floorU lo s) (L + L) (H + H)) = splitK (floorU lo s) (L + L) (H + H) - (s : Int) by omega] at v1
  rw [qb, qv_pos, show -((s : Int) - splitK (floorU lo s) (L + L) (H + H)) = splitK (floorU lo s) (L + L) (H + H) - (s : Int) by omega] at v2
  rw [v1, v2]
  exact ⟨h3, h4⟩
/-- Nothing of a middle size is refused. -/
theorem not_refused {lo hi : Dn} {s L H : Nat} (s1 : 32 ≤ s) (o : AtOk 1 3 s L H) (hlh : floorU lo s ≤ ceilU hi s) (hl : (floorU lo s).natAbs ≤ 2 ^ (12 + s)) (hh : (ceilU hi s - floorU lo s) * 8 ≤ ((2 ^ s : Nat) : Int)) : ¬ ((2 ^ s : Nat) : Int) < splitB (floorU lo s) (ceilU hi s) (L + L) (H + H) := by
  have h2 := ln_two o
  have e2 : ∀ x : Nat, 2 * (x : Rat) = ((x + x : Nat) : Rat) := fun x => by rw [Rat.natCast_add]; grind
  rw [e2, e2] at h2
  have h3 := o.le; have h4 := o.wide
  rw [Nat.pow_add] at hl
  exact Int.not_lt.2 (split_fits s1 h2 (by omega) (by omega) hlh hl hh)
/-- The top of a bare number below 4096. -/
theorem top_small {d : Dn} (h0 : d.m ≠ 0) (h1 : qv d < 4096) (h2 : -4096 < qv d) : (bitN d.m : Int) - 1 + d.e < 12 := by
  have hb := bitN_ge h0
  have h3 : (d.m : Rat) * pw d.e < 4096 := by
    unfold qv at h1 h2
    cases hn : d.neg
    · rw [hn, if_neg (by decide)] at h1; exact h1
    · rw [hn, if_pos rfl] at h2; grind
  rcases Int.lt_or_le ((bitN d.m : Int) - 1 + d.e) 12 with h | h
  · exact h
  · exfalso
    have hp := bitN_pos h0
    have h4 := Rat.mul_le_mul_of_nonneg_right (rq_le hb) (Rat.le_of_lt (pw_pos d.e))
    have h5 : ((2 ^ (bitN d.m - 1) : Nat) : Rat) * pw d.e = pw ((bitN d.m : Int) - 1 + d.e) := by
      rw [← pw_nat, ← pw_add]
      congr 1
      omega
    rw [h5] at h4
    have h6 := pw_mono h
    have h7 : pw 12 = 4096 := by
      have := pw_nat 12
      rw [show ((12 : Nat) : Int) = 12 from rfl] at this
      rw [this]; rfl
    rw [h7] at h6
    grind
theorem floor_small {d : Dn} {s : Nat} (h : d.m = 0 ∨ (bitN d.m : Int) - 1 + d.e < 12) : (floorU d s).natAbs ≤ 2 ^ (12 + s) := by
  unfold floorU
  have h1 := units_le (s := s) (ab := d.neg) h
  have : (sg d.neg (unitsN d.m d.e s d.neg)).natAbs = unitsN d.m d.e s d.neg := by unfold sg; split <;> omega
  rw [this]; exact h1
/-- A logarithm's interval in units. -/
theorem units_wide {lo hi : Dn} {s n : Nat} (s1 : 32 ≤ s) (hw : qv hi ≤ qv lo + (n : Rat) * ((2 * s + 128 : Nat) : Rat) * pw (-(s : Int))) (hn : n ≤ 2000000) : (ceilU hi s - floorU lo s) * 8 ≤ ((2 ^ s : Nat) : Int) := by
  have h1 := (ceil_val hi s).2
  have h2 := (floor_val lo s).2
  have hu : pw (-(s : Int)) * pw (s : Int) = 1 := pw_neg (s : Int)
  have h3 := Rat.mul_le_mul_of_nonneg_right hw (Rat.le_of_lt (pw_pos (s : Int)))
  have h4 : (qv lo + (n : Rat) * ((2 * s + 128 : Nat) : Rat) * pw (-(s : Int))) * pw (s : Int) = qv lo * pw (s : Int) + ((n * (2 * s + 128) : Nat) : Rat) := by
    rw [Rat.add_mul, Rat.mul_assoc _ (pw (-(s : Int))), hu, Rat.mul_one, Rat.natCast_mul]
  rw [h4] at h3
  have h5 : ((ceilU hi s : Int) : Rat) ≤ ((floorU lo s + ((n * (2 * s + 128) : Nat) : Int) + 2 : Int) : Rat) := by
    rw [Rat.intCast_add, Rat.intCast_add]
    have e1 : (((n * (2 * s + 128) : Nat) : Int) : Rat) = ((n * (2 * s + 128) : Nat) : Rat) := rfl
    rw [e1]
    have e2 : (((2 : Int)) : Rat) = 2 := rfl
    rw [e2]
    grind
  have h6 := Rat.intCast_le_intCast.1 h5
  obtain ⟨j, rfl⟩ : ∃ j, s = 32 + j := ⟨s - 32, by omega⟩
  have h7 := two_s j
  have h8 : n * (2 * (32 + j) + 128) ≤ 2000000 * 2 ^ (8 + j) := Nat.mul_le_mul hn h7
  have e3 : 2 ^ (32 + j) = 16777216 * 2 ^ (8 + j) := by
    rw [show 32 + j = 24 + (8 + j) by omega, Nat.pow_add]
  have h9 : 256 ≤ 2 ^ (8 + j) := by
    have := Nat.pow_le_pow_right (n := 2) (by decide) (show 8 ≤ 8 + j by omega)
    exact this
  rw [e3]
  clear e3 h1 h2 h3 h4 h5 hw
  generalize 2 ^ (8 + j) = x at *
  generalize n * (2 * (32 + j) + 128) = y at *
  omega
end Go.Proofs.YtflkemcoomgoiaaDoor

/- exp of a logarithm's interval, plainly. Conditions: none. -/
namespace Go.Proofs.YtflkemcoomgoiaaDoor
set_option maxRecDepth 100000
set_option linter.unusedVariables false

theorem exp_1 (n : Nat) : XL (-(n : Rat)) (pw (n : Int)) 1 := by
  have h := (exp_710.mono (p := -1) (by decide +kernel)).pow n
  rw [pow_two, one_pow'] at h
  have e : (n : Rat) * -1 = -(n : Rat) := by grind
  rwa [e] at h
theorem ln_bound {x lo hi : Rat} {n : Nat} (k : LnIn x lo hi) (h1 : pw (-(n : Int)) ≤ x) (h2 : x ≤ pw (n : Int)) : lo ≤ (n : Rat) ∧ -(n : Rat) ≤ hi := by
  have hx := k.pos
  constructor
  · exact k.lo.le_of ((exp_1 n).down hx h2)
  · have hu : pw (-(n : Int)) * pw (n : Int) = 1 := pw_neg (n : Int)
    -- exp (-hi) <= 1 / x <= 2 ^ n
    have h3 : XL (-hi) (pw (-(n : Int))) 1 := k.hi.down (pw_pos _) h1
    have h4 := h3.scale (pw_pos (n : Int))
    rw [hu, Rat.one_mul] at h4
    have := h4.le_of (exp_1 n)
    grind
/-- A logarithm's interval, of a number between 2^-1100 and 2^1100. -/
theorem log_mid {d lo hi : Dn} {s : Nat} (o : LogOk d lo hi s) (s1 : 32 ≤ s) (ht : (topD d).natAbs ≤ 1098) (h1 : pw (-(1100 : Nat)) ≤ qv d) (h2 : qv d ≤ pw ((1100 : Nat) : Int)) :
    -1102 ≤ qv lo ∧ qv lo ≤ 1102 ∧ -1102 ≤ qv hi ∧ qv hi ≤ 1102 ∧ qv lo ≤ qv hi := by
  obtain ⟨a1, a2⟩ := ln_bound o.ln h1 h2
  have a3 := o.ln.le_self
  have hw := o.wide
  have hp := pw_pos (-(s : Int))
  have hsm : (((topD d).natAbs + 2 : Nat) : Rat) * ((2 * s + 128 : Nat) : Rat) * pw (-(s : Int)) ≤ 1 := by
    obtain ⟨j, rfl⟩ : ∃ j, s = 32 + j := ⟨s - 32, by omega⟩
    have h7 := two_s j
    have h8 : ((topD d).natAbs + 2) * (2 * (32 + j) + 128) ≤ 2 ^ (32 + j) := by
      have h9 : ((topD d).natAbs + 2) * (2 * (32 + j) + 128) ≤ 16777216 * 2 ^ (8 + j) := Nat.mul_le_mul (by omega) h7
      rw [show 32 + j = 24 + (8 + j) by omega, Nat.pow_add]
      rw [show 32 + j = 24 + (8 + j) by omega] at h9
      exact h9
    have h10 := Rat.mul_le_mul_of_nonneg_right (rq_le h8) (Rat.le_of_lt hp)
    rw [pw_unit, Rat.natCast_mul] at h10
    exact h10
  have e : ((1100 : Nat) : Rat) = 1100 := rfl
  rw [e] at a1 a2
  refine ⟨by grind, by grind, by grind, by grind, a3⟩
theorem exp_log_lo {x l r : Rat} (k : XL l 1 x) (h : XL (-l) r 1) : r ≤ x := by
  have := k.mul h
  rw [Rat.mul_one, Rat.one_mul] at this
  have e : l + -l = 0 := by grind
  rw [e] at this
  exact this.zero_le
theorem exp_log_hi {x h r m : Rat} (k : XL (-h) x 1) (hm : h ≤ m) (k' : XL m 1 r) : x ≤ r := by
  have := k.mul (k'.mono hm)
  rw [Rat.mul_one, Rat.one_mul] at this
  have e : -h + h = 0 := by grind
  rw [e] at this
  exact this.zero_le
theorem more_sizes {n : Bool} {m : Nat} {e : Int} {k : Int} (h : Mid k ⟨n, m, e⟩) (hk : k ≤ 19000) (h1 : qv ⟨n, m, e⟩ < 4096) (h2 : -4096 < qv ⟨n, m, e⟩) : bitN m ≤ 20000 ∧ -20000 ≤ e ∧ e ≤ 20000 := by
  obtain ⟨a1, a2, a3⟩ := h
  dsimp only at a1 a2 a3
  by_cases h0 : m = 0
  · rw [h0, bitN_zero]; omega
  · have := top_small (d := ⟨n, m, e⟩) h0 h1 h2
    dsimp only at this
    omega
theorem small_val {m : Nat} {e : Int} (h0 : m ≠ 0) (hm : m < 18446744073709551616) (he : e.natAbs ≤ 999) : pw (-((1100 : Nat) : Int)) ≤ qv ⟨false, m, e⟩ ∧ qv ⟨false, m, e⟩ ≤ pw ((1100 : Nat) : Int) := by
  rw [qv_pos]
  have hp := pw_pos e
  constructor
  · have h1 := Rat.mul_le_mul_of_nonneg_right (rq_le (show 1 ≤ m by omega)) (Rat.le_of_lt hp)
    have e1 : ((1 : Nat) : Rat) = 1 := rfl
    rw [e1, Rat.one_mul] at h1
    exact Rat.le_trans (pw_mono (show -((1100 : Nat) : Int) ≤ e by omega)) h1
  · have h1 := Rat.mul_le_mul_of_nonneg_right (rq_le (show m ≤ 2 ^ 64 by omega)) (Rat.le_of_lt hp)
    rw [← pw_nat, ← pw_add] at h1
    exact Rat.le_trans h1 (pw_mono (by omega))
theorem little {b : Nat} (hb : b < 4096) : 0 ≤ qv ⟨false, b, -12⟩ ∧ qv ⟨false, b, -12⟩ ≤ 1 := by
  rw [qv_pos]
  have hp := pw_pos (-12)
  refine ⟨Rat.mul_nonneg (rq_nat_nonneg b) (Rat.le_of_lt hp), ?_⟩
  have h1 := Rat.mul_le_mul_of_nonneg_right (rq_le (show b ≤ 2 ^ 12 by omega)) (Rat.le_of_lt hp)
  have h2 := pw_unit 12
  rw [show -((12 : Nat) : Int) = -12 from rfl] at h2
  rw [h2] at h1
  exact h1
end Go.Proofs.YtflkemcoomgoiaaDoor

/- The document's exp (chapter 14) is near: plainly. Conditions: none. -/
namespace Go.Proofs.YtflkemcoomgoiaaDoor
set_option maxRecDepth 100000
set_option linter.unusedVariables false

theorem exp_13 : XL 1 1 3 := by
  refine XL.of_series (by decide) (by decide) (fun K => ?_)
  rw [Rat.mul_one]
  refine Rat.le_trans (exA_bound (x := 1) (by decide) (by decide) (k := 6) (by decide) K) ?_
  decide +kernel
theorem rexH_one {R a N j : Nat} : R ≤ rexH R a N (j + 1) := by rw [rexH_succ]; exact Nat.le_add_right _ _
/-- exp of what is left. -/
theorem refExp_near {M m N : Nat} (hM : M ≤ 2 ^ m) (h1 : m + 8 ≤ exB (N + 1)) :
    XL (-((M : Rat) * pw (-(m : Int)))) ((refExp M (2 ^ m) (N + 1) : Rat) * pw (-(m : Int))) 1 ∧ XL ((M : Rat) * pw (-(m : Int))) 1 (((refExp M (2 ^ m) (N + 1) + (2 * N + 3) : Nat) : Rat) * pw (-(m : Int))) ∧ 2 ^ m ≤ refExp M (2 ^ m) (N + 1) ∧ (refExp M (2 ^ m) (N + 1) : Rat) * pw (-(m : Int)) ≤ 3 := by
  have hS := Nat.two_pow_pos m
  have hSp := rq_nat_pos hS
  have hu := pw_unit m
  have hp := pw_pos (-(m : Int))
  have hx : (M : Rat) = ((2 ^ m : Nat) : Rat) * ((M : Rat) * pw (-(m : Int))) := by
    rw [Rat.mul_comm (M : Rat), ← Rat.mul_assoc, hu, Rat.one_mul]
  have x0 : 0 ≤ (M : Rat) * pw (-(m : Int)) := Rat.mul_nonneg (rq_nat_nonneg M) (Rat.le_of_lt hp)
  have x1 : (M : Rat) * pw (-(m : Int)) ≤ 1 := by
    have := Rat.mul_le_mul_of_nonneg_right (rq_le hM) (Rat.le_of_lt hp)
    rwa [hu] at this
  have hR : 2 ^ m ≤ refExp M (2 ^ m) (N + 1) := rexH_one
  have a1 := refExp_le (N := N + 1) hS hx x0
  have a2 := refExp_ge (N := N + 1) hS hx x0 x1
  have a4 := exT_tiny (m := m) x0 x1 (show m ≤ exB (N + 1) by omega)
  have L1 : XL (-((M : Rat) * pw (-(m : Int)))) ((refExp M (2 ^ m) (N + 1) : Rat) * pw (-(m : Int))) 1 := by
    refine XL.neg_series (K := N + 1 + 1) x0 (Rat.mul_pos (rq_nat_pos (Nat.lt_of_lt_of_le hS hR)) hp) ?_ (by decide)
    have := Rat.mul_le_mul_of_nonneg_right a1 (Rat.le_of_lt hp)
    rw [Rat.one_mul]
    have e : ((2 ^ m : Nat) : Rat) * exA ((M : Rat) * pw (-(m : Int))) (N + 1 + 1) * pw (-(m : Int)) = exA ((M : Rat) * pw (-(m : Int))) (N + 1 + 1) := by
      rw [Rat.mul_comm ((2 ^ m : Nat) : Rat), Rat.mul_assoc, hu, Rat.mul_one]
    rwa [e] at this
  refine ⟨L1, ?_, hR, exp_log_lo (exp_13.mono x1) L1⟩
  refine XL.of_series x0 (by decide) (fun K => ?_)
  rw [Rat.mul_one]
  have a3 := exA_bound x0 x1 (k := N + 1) (by omega) K
  have b3 := Rat.mul_le_mul_of_nonneg_left a3 (rq_nat_nonneg (2 ^ m))
  rw [Rat.mul_add] at b3
  have c3 : ((2 ^ m : Nat) : Rat) * exA ((M : Rat) * pw (-(m : Int))) K ≤ ((refExp M (2 ^ m) (N + 1) + (2 * N + 3) : Nat) : Rat) := by
    have e1 : ((refExp M (2 ^ m) (N + 1) + (2 * N + 3) : Nat) : Rat) = (refExp M (2 ^ m) (N + 1) : Rat) + 2 * ((N + 1 : Nat) : Rat) + 1 := by
      rw [show refExp M (2 ^ m) (N + 1) + (2 * N + 3) = refExp M (2 ^ m) (N + 1) + 2 * (N + 1) + 1 by omega, Rat.natCast_add, Rat.natCast_add, Rat.natCast_mul]
      rfl
    rw [e1]
    grind
  have d3 := Rat.mul_le_mul_of_nonneg_right c3 (Rat.le_of_lt hp)
  have e : ((2 ^ m : Nat) : Rat) * exA ((M : Rat) * pw (-(m : Int))) K * pw (-(m : Int)) = exA ((M : Rat) * pw (-(m : Int))) K := by
    rw [Rat.mul_comm ((2 ^ m : Nat) : Rat), Rat.mul_assoc, hu, Rat.mul_one]
  rwa [e] at d3
/-- Powers of two by the document's ln 2 (below by 16 units at most). -/
theorem two_k {W u : Rat} (k2 : LnIn 2 (W * u) ((W + 16) * u)) (hu : 0 < u) (k : Int) :
    XL ((k : Rat) * (W * u) - 16 * (k.natAbs : Rat) * u) 1 (pw k) ∧ XL (-((k : Rat) * (W * u)) - 16 * (k.natAbs : Rat) * u) (pw k) 1 := by
  obtain ⟨h1, h2⟩ := exp_k k2 k.natAbs
  have hq : 0 ≤ 16 * (k.natAbs : Rat) * u := Rat.mul_nonneg (Rat.mul_nonneg (by decide) (rq_nat_nonneg _)) (Rat.le_of_lt hu)
  rcases Int.natAbs_eq k with e | e
  · have ec : (k : Rat) = (k.natAbs : Rat) := by
      conv => lhs; rw [e]
      rfl
    rw [ec]
    rw [← e] at h1 h2
    exact ⟨h1.mono (by grind), h2.mono (by grind)⟩
  · have ec : (k : Rat) = -(k.natAbs : Rat) := by
      conv => lhs; rw [e]
      rw [Rat.intCast_neg]; rfl
    have h5 : pw (k.natAbs : Int) * pw k = 1 := by
      have := pw_neg (k.natAbs : Int)
      rw [← e, Rat.mul_comm] at this
      exact this
    have hk := pw_pos k
    have g1 := h1.scale hk
    have g2 := h2.scale hk
    rw [h5, Rat.one_mul] at g1 g2
    rw [ec]
    exact ⟨g2.mono (by grind), g1.mono (by grind)⟩
/-- The document's exp is near: v is what is left and k times the document's ln 2. -/
theorem refExp_tells {M m N : Nat} {v W : Rat} {k : Int} (hm : 8 ≤ m) (hm2 : m ≤ 500) (hM : M ≤ 2 ^ m) (h1 : m + 8 ≤ exB (N + 1)) (hN : N ≤ m + 8) (hk : k.natAbs ≤ 2000) (k2 : LnIn 2 (W * pw (-(m : Int))) ((W + 16) * pw (-(m : Int))))
    (l1 : (M : Rat) * pw (-(m : Int)) ≤ v - (k : Rat) * (W * pw (-(m : Int)))) (l2 : v - (k : Rat) * (W * pw (-(m : Int))) ≤ ((M : Rat) + 1) * pw (-(m : Int))) (hsm : 32001 * pw (-(m : Int)) ≤ 1 / 2) :
    XL v 1 (((refExp M (2 ^ m) (N + 1) : Rat) + 1000000) * pw (-(m : Int)) * pw k) ∧ XL (-v) (((refExp M (2 ^ m) (N + 1) : Rat) - 1000000) * pw (-(m : Int)) * pw k) 1 ∨ (refExp M (2 ^ m) (N + 1) : Rat) ≤ 1000000 ∧ XL v 1 (((refExp M (2 ^ m) (N + 1) : Rat) + 1000000) * pw (-(m : Int)) * pw k) := by
  obtain ⟨r1, r2, r3, r4⟩ := refExp_near hM h1
  obtain ⟨t1, t2⟩ := two_k k2 (pw_pos (-(m : Int))) k
  have hp := pw_pos (-(m : Int))
  have hpk := pw_pos k
  have hq : (k.natAbs : Rat) ≤ 2000 := rq_le hk
  have hq0 : (0 : Rat) ≤ (k.natAbs : Rat) := rq_nat_nonneg _
  have hNn : ((2 * N + 3 : Nat) : Rat) ≤ 1019 := rq_le (show 2 * N + 3 ≤ 1019 by omega)
  have hN0 : (0 : Rat) ≤ ((2 * N + 3 : Nat) : Rat) := rq_nat_nonneg _
  rw [Rat.natCast_add] at r2
  have hR0 : (0 : Rat) ≤ (refExp M (2 ^ m) (N + 1) : Rat) := rq_nat_nonneg _
  generalize (refExp M (2 ^ m) (N + 1) : Rat) = R at *
  generalize ((2 * N + 3 : Nat) : Rat) = n3 at *
  generalize (k.natAbs : Rat) = q at *
  generalize pw (-(m : Int)) = u at *
  generalize pw k = P at *
  generalize (k : Rat) * (W * u) = y at *
  generalize (M : Rat) = a at *
  have e0 : 0 ≤ (16 * q + 1) * u := Rat.mul_nonneg (by grind) (Rat.le_of_lt hp)
  have e1 : (16 * q + 1) * u ≤ 1 / 2 := Rat.le_trans (Rat.mul_le_mul_of_nonneg_right (show 16 * q + 1 ≤ 32001 by grind) (Rat.le_of_lt hp)) hsm
  have up : XL v 1 ((R + 1000000) * u * P) := by
    have s1 : XL ((16 * q + 1) * u) (1 - (16 * q + 1) * u) 1 := XL.pos_lin e0 (by grind)
    have s2 : XL ((16 * q + 1) * u) 1 (1 + 2 * ((16 * q + 1) * u)) := by
      have hc : 0 < 1 + 2 * ((16 * q + 1) * u) := by grind
      have s3 := s1.scale hc
      rw [Rat.one_mul] at s3
      refine s3.down (by decide) ?_
      generalize (16 * q + 1) * u = t at *
      have : 0 ≤ t * (1 - 2 * t) := Rat.mul_nonneg e0 (by grind)
      grind
    have s4 := (r2.mul t1).mul s2
    rw [Rat.one_mul, Rat.one_mul] at s4
    refine (s4.mono (by grind)).up ?_
    -- (R + n3) u P (1 + 2 t) <= (R + 1000000) u P
    have w1 : (R + n3) * u ≤ 4 := by
      have : n3 * u ≤ 1 := Rat.le_trans (Rat.mul_le_mul_of_nonneg_right (show n3 ≤ 32001 by grind) (Rat.le_of_lt hp)) (Rat.le_trans hsm (by decide +kernel))
      grind
    have w2 : (R + n3) * u * (2 * ((16 * q + 1) * u)) ≤ 4 * (2 * ((16 * q + 1) * u)) := Rat.mul_le_mul_of_nonneg_right w1 (by grind)
    have w4 : q * u ≤ 2000 * u := Rat.mul_le_mul_of_nonneg_right hq (Rat.le_of_lt hp)
    have w5 : n3 * u ≤ 1019 * u := Rat.mul_le_mul_of_nonneg_right hNn (Rat.le_of_lt hp)
    have w3 : (R + n3) * u * (1 + 2 * ((16 * q + 1) * u)) ≤ (R + 1000000) * u := by grind
    have := Rat.mul_le_mul_of_nonneg_right w3 (Rat.le_of_lt hpk)
    have e : (R + n3) * u * P * (1 + 2 * ((16 * q + 1) * u)) = (R + n3) * u * (1 + 2 * ((16 * q + 1) * u)) * P := by grind
    rw [e]; exact this
  by_cases hR : R ≤ 1000000
  · exact .inr ⟨hR, up⟩
  · refine .inl ⟨up, ?_⟩
    have g0 : 0 ≤ 16 * q * u := Rat.mul_nonneg (by grind) (Rat.le_of_lt hp)
    have g1 : 16 * q * u ≤ 1 / 2 := by grind
    have s1 : XL (16 * q * u) (1 - 16 * q * u) 1 := XL.pos_lin g0 (by grind)
    have s4 := (r1.mul t2).mul s1
    rw [Rat.one_mul, Rat.one_mul] at s4
    refine (s4.mono (by grind)).down ?_ ?_
    · exact Rat.mul_pos (Rat.mul_pos (by grind) hp) hpk
    · have w2 : R * u * (16 * q * u) ≤ 3 * (16 * q * u) := Rat.mul_le_mul_of_nonneg_right r4 g0
      have w4 : q * u ≤ 2000 * u := Rat.mul_le_mul_of_nonneg_right hq (Rat.le_of_lt hp)
      have w3 : (R - 1000000) * u ≤ R * u * (1 - 16 * q * u) := by grind
      have := Rat.mul_le_mul_of_nonneg_right w3 (Rat.le_of_lt hpk)
      have e : R * u * P * (1 - 16 * q * u) = R * u * (1 - 16 * q * u) * P := by grind
      rw [e]; exact this
end Go.Proofs.YtflkemcoomgoiaaDoor

/- The document's ln 2 and how often it goes into a number: plainly. Conditions: none. -/
namespace Go.Proofs.YtflkemcoomgoiaaDoor
set_option maxRecDepth 100000
set_option linter.unusedVariables false

theorem pw_tiny {m : Nat} (hm : 40 ≤ m) : 1000000000000 * pw (-(m : Int)) ≤ 1 := by
  have hp := pw_pos (-(m : Int))
  have h1 : 1000000000000 ≤ 2 ^ m := Nat.le_trans (show 1000000000000 ≤ 2 ^ 40 by decide) (Nat.pow_le_pow_right (by decide) hm)
  have h2 := Rat.mul_le_mul_of_nonneg_right (rq_le h1) (Rat.le_of_lt hp)
  rw [pw_unit] at h2
  exact h2
theorem refTwo_ends {m : Nat} (hm : 40 ≤ m) : LnIn 2 (((refTwoU m * 2 : Nat) : Rat) * pw (-(m : Int))) ((((refTwoU m * 2 : Nat) : Rat) + 16) * pw (-(m : Int))) ∧
    3 / 5 ≤ ((refTwoU m * 2 : Nat) : Rat) * pw (-(m : Int)) ∧ ((refTwoU m * 2 : Nat) : Rat) * pw (-(m : Int)) ≤ 7 / 10 := by
  have k := ln_two_ref m
  have e1 : 2 * ((refAt 1 3 (2 ^ m) (m / 3 + 2) : Nat) : Rat) = ((refTwoU m * 2 : Nat) : Rat) := by
    unfold refTwoU
    rw [Rat.natCast_mul, show ((2 : Nat) : Rat) = 2 from rfl]; grind
  have e2 : 2 * ((refAt 1 3 (2 ^ m) (m / 3 + 2) + 8 : Nat) : Rat) = ((refTwoU m * 2 : Nat) : Rat) + 16 := by
    rw [← e1, Rat.natCast_add, show ((8 : Nat) : Rat) = 8 from rfl]; grind
  rw [e1, e2] at k
  have h1 := k.lo.le_of exp_710
  have h2 := exp_23.le_of k.hi
  have ht := pw_tiny hm
  refine ⟨k, ?_, h1⟩
  generalize ((refTwoU m * 2 : Nat) : Rat) = W at *
  have : (W + 16) * pw (-(m : Int)) = W * pw (-(m : Int)) + 16 * pw (-(m : Int)) := by grind
  rw [this] at h2
  grind
/-- How often at most. -/
theorem often {t v : Rat} {j : Nat} (ht : 3 / 5 ≤ t) (h1 : v < 1024) (h : (j : Rat) * t ≤ v) : j ≤ 1707 := by
  have h2 : (j : Rat) * (3 / 5) ≤ (j : Rat) * t := Rat.mul_le_mul_of_nonneg_left ht (rq_nat_nonneg j)
  have h3 : (j : Rat) < 1707 + 1 := by grind
  have h4 : (j : Rat) < ((1708 : Nat) : Rat) := by
    have e : ((1708 : Nat) : Rat) = 1708 := rfl
    rw [e]; grind
  have := Rat.natCast_lt_natCast.1 h4
  omega
/-- What is left as whole units, below. -/
theorem left_units {n : Bool} {M m : Nat} {E : Int} (hn : 0 ≤ qv ⟨n, M, E⟩) : ((unitsN M E m false : Nat) : Rat) * pw (-(m : Int)) ≤ qv ⟨n, M, E⟩ ∧ qv ⟨n, M, E⟩ ≤ (((unitsN M E m false : Nat) : Rat) + 1) * pw (-(m : Int)) := by
  have hq : qv ⟨n, M, E⟩ = (M : Rat) * pw E := by
    cases n
    · rfl
    · have h0 : 0 ≤ (M : Rat) * pw E := Rat.mul_nonneg (rq_nat_nonneg M) (Rat.le_of_lt (pw_pos E))
      rw [qv_neg] at hn ⊢
      grind
  rw [hq]
  obtain ⟨h1, h2⟩ := units_lo M E m
  have hp := pw_pos (-(m : Int))
  have hu : pw (m : Int) * pw (-(m : Int)) = 1 := by rw [Rat.mul_comm]; exact pw_neg (m : Int)
  have h3 := Rat.mul_le_mul_of_nonneg_right h1 (Rat.le_of_lt hp)
  have h4 := Rat.mul_le_mul_of_nonneg_right h2 (Rat.le_of_lt hp)
  have e : (M : Rat) * pw (E + (m : Int)) * pw (-(m : Int)) = (M : Rat) * pw E := by
    rw [pw_add, Rat.mul_assoc, Rat.mul_assoc (pw E), hu, Rat.mul_one]
  rw [e] at h3 h4
  exact ⟨h3, h4⟩
end Go.Proofs.YtflkemcoomgoiaaDoor

/- exp's interval against the document's: plainly. Conditions: none. -/
namespace Go.Proofs.YtflkemcoomgoiaaDoor
set_option maxRecDepth 100000
set_option linter.unusedVariables false

/-- How often ln 2 goes into a number below 1024: whatever the scale. -/
theorem floor_1024 {d : Dn} {s : Nat} (h1 : -1024 < qv d) (h2 : qv d < 1024) : (floorU d s).natAbs ≤ 1024 * 2 ^ s := by
  obtain ⟨f1, f2⟩ := floor_val d s
  have hp := pw_pos (s : Int)
  have g1 := Rat.mul_lt_mul_of_pos_right h1 hp
  have g2 := Rat.mul_lt_mul_of_pos_right h2 hp
  rw [pw_nat] at *
  have e : ((1024 * 2 ^ s : Nat) : Rat) = 1024 * ((2 ^ s : Nat) : Rat) := by rw [Rat.natCast_mul]; rfl
  have i1 : ((floorU d s : Int) : Rat) < (((1024 * 2 ^ s : Nat) : Int) : Rat) := by
    show _ < ((1024 * 2 ^ s : Nat) : Rat)
    rw [e]; grind
  have i2 : ((-((1024 * 2 ^ s : Nat) : Int) - 1 : Int) : Rat) < ((floorU d s : Int) : Rat) := by
    have e2 : ((-((1024 * 2 ^ s : Nat) : Int) - 1 : Int) : Rat) = -((1024 * 2 ^ s : Nat) : Rat) - 1 := by
      rw [Rat.intCast_sub, Rat.intCast_neg]; rfl
    rw [e2, e]; grind
  have j1 := Rat.intCast_lt_intCast.1 i1
  have j2 := Rat.intCast_lt_intCast.1 i2
  omega
theorem split_1024 {l : Int} {s C D L : Nat} (hC : C = L + L) (hCD : C ≤ D) (h32 : 2 ^ s ≤ 32 * L) (hL : 0 < L) (hl : l.natAbs ≤ 1024 * 2 ^ s) : splitQ l C D ≤ 16384 := by
  have hl2 : l.natAbs ≤ 16384 * C := by
    generalize 2 ^ s = x at *
    omega
  unfold splitQ
  split
  · exact cdiv_le_of (by omega) hl2
  · exact Nat.div_le_of_le_mul (by rw [Nat.mul_comm]; exact Nat.le_trans hl2 (Nat.mul_le_mul_left _ hCD))

/-- What exps.Exp tells of one number. -/
structure ExpV (d lo hi : Dn) (s : Nat) (k : Int) : Prop where
  x1 : XL (-(qv d)) (qv lo) 1
  x2 : XL (qv d) 1 (qv hi)
  b1 : bareD lo = lo
  b2 : bareD hi = hi
  le : qv lo ≤ qv hi
  z1 : bitN lo.m ≤ 20000 ∧ -1000000000 ≤ lo.e ∧ lo.e ≤ 1001000000
  z2 : bitN hi.m ≤ 20000 ∧ -1000000000 ≤ hi.e ∧ hi.e ≤ 1001000000
  ka : k.natAbs ≤ 65536
  mid : -1024 < qv d → qv d < 1024 → s ≤ 300 → k.natAbs ≤ 16384 ∧ Mid 20000 lo ∧ Mid 20000 hi
  low : pw k ≤ qv lo
  thin : qv hi - qv lo ≤ ((8 * s + 131 + 3 * k.natAbs * (2 * s + 128) : Nat) : Rat) * pw (-((s : Int) - k))

theorem exp_le {v a b : Rat} (h1 : XL (-v) a 1) (h2 : XL v 1 b) : a ≤ b := by
  have h3 := h1.mul h2
  rw [show -v + v = 0 by grind, Rat.mul_one, Rat.one_mul] at h3
  exact h3.zero_le
theorem exp_full {d : Dn} {s L H A B Le He m1 m2 : Nat} {n1 n2 : Bool} {f1 f2 : Int} (s1 : 8 ≤ s) (s2 : s ≤ 8900) (ht : d.m = 0 ∨ (bitN d.m : Int) - 1 + d.e < 12) (o : AtOk 1 3 s L H) (hA : splitA (floorU d s) (L + L) (H + H) = (A : Int)) (hB : splitB (floorU d s) (ceilU d s) (L + L) (H + H) = (B : Int)) (hBS : B ≤ 2 ^ s) (oe : ExOk A B s Le He) (y1 : bitN Le ≤ 20000) (y2 : bitN He ≤ 20000)
    (qa : bareD ⟨false, Le, -((s : Int) - splitK (floorU d s) (L + L) (H + H))⟩ = ⟨n1, m1, f1⟩) (qb : bareD ⟨false, He, -((s : Int) - splitK (floorU d s) (L + L) (H + H))⟩ = ⟨n2, m2, f2⟩) :
    ExpV d ⟨n1, m1, f1⟩ ⟨n2, m2, f2⟩ s (splitK (floorU d s) (L + L) (H + H)) := by
  have hCD : L + L ≤ H + H := by have := o.le; omega
  have hw := o.wide
  obtain ⟨h32, hL0⟩ := ln2_pos8 o s1
  have hk : (splitK (floorU d s) (L + L) (H + H)).natAbs ≤ 65536 := by rw [splitQ_abs]; exact split_sizes rfl hCD h32 hL0 (floor_small ht)
  obtain ⟨x1, x2⟩ := exp_told s2 o hA hB hBS oe hk qa qb
  have hth := exp_thin hCD (show H + H ≤ L + L + (2 * s + 128) by omega) (ceil_floor d s) hA hB oe
  have hsm : -1024 < qv d → qv d < 1024 → (splitK (floorU d s) (L + L) (H + H)).natAbs ≤ 16384 := fun v1 v2 => by rw [splitQ_abs]; exact split_1024 rfl hCD h32 hL0 (floor_1024 v1 v2)
  have hshort := oe.short
  have hle := oe.le
  have hlow := oe.low
  clear hA hB hBS o oe h32
  generalize splitK (floorU d s) (L + L) (H + H) = k at *
  have v1 := qv_bare (d := ⟨false, Le, -((s : Int) - k)⟩) (by dsimp only; omega) (by dsimp only; omega)
  have v2 := qv_bare (d := ⟨false, He, -((s : Int) - k)⟩) (by dsimp only; omega) (by dsimp only; omega)
  rw [qa, qv_pos] at v1
  rw [qb, qv_pos] at v2
  obtain ⟨-, c1, c2⟩ := bareD_fits qa (Nat.le_trans y1 (by decide)) (by omega) (by omega)
  obtain ⟨-, c3, c4⟩ := bareD_fits qb (Nat.le_trans y2 (by decide)) (by omega) (by omega)
  refine ⟨x1, x2, bareD_again qa (by omega) (by omega), bareD_again qb (by omega) (by omega), exp_le x1 x2, ⟨Nat.le_trans (bareD_bits qa) y1, c1, c2⟩, ⟨Nat.le_trans (bareD_bits qb) y2, c3, c4⟩, hk, ?_, ?_, ?_⟩
  · intro w1 w2 w3
    have hk2 := hsm w1 w2
    have hb : bitN He ≤ s + 20 := by
      refine Nat.le_trans (bitN_mono hshort) (bitN_le.2 ?_)
      rw [Nat.mul_comm (s + 4), Nat.pow_add]
      refine Nat.mul_lt_mul_of_pos_left (Nat.lt_of_le_of_lt (show s + 4 ≤ 304 by omega) ?_) (Nat.two_pow_pos s)
      exact Nat.lt_of_lt_of_le (show 304 < 2 ^ 9 by decide) (Nat.pow_le_pow_right (by decide) (by decide))
    have hb1 : bitN Le ≤ s + 20 := Nat.le_trans (bitN_mono hle) hb
    have m1' : Mid 20000 ⟨false, Le, -((s : Int) - k)⟩ := ⟨by dsimp only; omega, by dsimp only; omega, by dsimp only; omega⟩
    have m2' : Mid 20000 ⟨false, He, -((s : Int) - k)⟩ := ⟨by dsimp only; omega, by dsimp only; omega, by dsimp only; omega⟩
    have b1 := (m1'.bare (by omega) (by omega)).1
    have b2 := (m2'.bare (by omega) (by omega)).1
    rw [qa] at b1
    rw [qb] at b2
    exact ⟨hk2, b1, b2⟩
  · rw [v1]
    have hp := pw_pos (-((s : Int) - k))
    have h5 := Rat.mul_le_mul_of_nonneg_right (rq_le hlow) (Rat.le_of_lt hp)
    have e : ((2 ^ s : Nat) : Rat) * pw (-((s : Int) - k)) = pw k := by
      rw [← pw_nat, ← pw_add]; congr 1; omega
    rw [e] at h5
    exact h5
  · rw [v1, v2]
    have hp := pw_pos (-((s : Int) - k))
    have h5 := rq_le hth
    rw [Rat.natCast_add] at h5
    have := Rat.mul_le_mul_of_nonneg_right h5 (Rat.le_of_lt hp)
    grind
/-- What is told: so often t goes into V, and what is left as units. -/
def TwoLeft (V t : Rat) (m : Nat) (k : Int) (Mu : Nat) : Prop :=
  k.natAbs ≤ 2000 ∧ Mu ≤ 2 ^ m ∧ (Mu : Rat) * pw (-(m : Int)) ≤ V - (k : Rat) * t ∧ V - (k : Rat) * t ≤ ((Mu : Rat) + 1) * pw (-(m : Int))

/-- So the document's exp is where it is told. -/
theorem exp_holds {d lo hi : Dn} {s m Mu N T : Nat} {k k' top : Int} (o : ExpV d lo hi s k) (hm : 88 ≤ m) (hm2 : m ≤ 480) (h : TwoLeft (qv d) (((refTwoU m * 2 : Nat) : Rat) * pw (-(m : Int))) m k' Mu) (h1 : m + 8 ≤ exB (N + 1)) (hN : N ≤ m + 8) (htop : topD ⟨false, refExp Mu (2 ^ m) (N + 1), k' - (m : Int)⟩ = top) :
    (qv lo ≤ qv ⟨false, refExp Mu (2 ^ m) (N + 1), k' - (m : Int)⟩ + qv ⟨false, 2 ^ 40, top - (m : Int)⟩ ∧ qv ⟨false, refExp Mu (2 ^ m) (N + 1), k' - (m : Int)⟩ + -qv ⟨false, 2 ^ 40, top - (m : Int)⟩ ≤ qv hi) ∧ refExp Mu (2 ^ m) (N + 1) ≤ 3 * 2 ^ m ∧ 2 ^ m ≤ refExp Mu (2 ^ m) (N + 1) := by
  obtain ⟨g1, g2, g3, g4⟩ := h
  obtain ⟨k2, -, -⟩ := refTwo_ends (show 40 ≤ m by omega)
  have ht := pw_tiny (show 40 ≤ m by omega)
  obtain ⟨-, -, r3, r4⟩ := refExp_near g2 h1
  have hp := pw_pos (-(m : Int))
  have hpk := pw_pos k'
  have htl := refExp_tells (show 8 ≤ m by omega) (by omega) g2 h1 hN g1 k2 g3 g4 (by grind)
  have r3q : (1099511627776 : Rat) ≤ (refExp Mu (2 ^ m) (N + 1) : Rat) := by
    have h2 : 1099511627776 ≤ 2 ^ m := Nat.le_trans (show 1099511627776 ≤ 2 ^ 40 by decide) (Nat.pow_le_pow_right (by decide) (by omega))
    exact rq_le (Nat.le_trans h2 r3)
  have hR3 : refExp Mu (2 ^ m) (N + 1) ≤ 3 * 2 ^ m := by
    refine rq_unle ?_
    have h3 := Rat.mul_le_mul_of_nonneg_right r4 (Rat.le_of_lt (rq_nat_pos (Nat.two_pow_pos m)))
    rw [Rat.mul_assoc, Rat.mul_comm (pw _), pw_unit, Rat.mul_one] at h3
    rw [Rat.natCast_mul]
    exact h3
  have hoff : pw (k' - (m : Int)) ≤ pw (top - (m : Int)) := by
    refine pw_mono ?_
    have hb : m + 1 ≤ bitN (refExp Mu (2 ^ m) (N + 1)) := by
      rcases Nat.lt_or_ge (bitN (refExp Mu (2 ^ m) (N + 1))) (m + 1) with h | h
      · exfalso
        have h3 := bitN_lt (refExp Mu (2 ^ m) (N + 1))
        have h4 : 2 ^ bitN (refExp Mu (2 ^ m) (N + 1)) ≤ 2 ^ m := Nat.pow_le_pow_right (by decide) (by omega)
        omega
      · exact h
    unfold topD at htop
    dsimp only at htop
    omega
  rw [qv_pos, qv_pos]
  have e1 : pw (k' - (m : Int)) = pw (-(m : Int)) * pw k' := by rw [← pw_add]; congr 1; omega
  have e2 : ((2 ^ 40 : Nat) : Rat) = 1099511627776 := by decide +kernel
  rw [e2]
  refine ⟨?_, hR3, r3⟩
  rcases htl with ⟨t1, t2⟩ | ⟨t1, -⟩
  · have f1 := exp_le o.x1 t1
    have f2 := exp_le t2 o.x2
    rw [Rat.mul_assoc, ← e1] at f1 f2
    have hq := pw_pos (k' - (m : Int))
    generalize (refExp Mu (2 ^ m) (N + 1) : Rat) = R at *
    generalize pw (k' - (m : Int)) = x at *
    generalize pw (top - (m : Int)) = y at *
    constructor <;> grind
  · exfalso; grind
end Go.Proofs.YtflkemcoomgoiaaDoor
