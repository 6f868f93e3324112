/- Sums of dyads as rational numbers. Conditions: none. -/
import Derived.Test.YtflkemcoomgoiaaDoorRatG
import Derived.Test.YtflkemcoomgoiaaDoorDyG
import Derived.Test.YtflkemcoomgoiaaDoorSerG
namespace Go.Proofs.YtflkemcoomgoiaaDoor
set_option maxRecDepth 100000
set_option linter.unusedVariables false

/-- A number of units with a sign. -/
def sg (n : Bool) (x : Nat) : Int := if n then -(x : Int) else (x : Int)
theorem qv_sg (n : Bool) (m : Nat) (e : Int) : qv ⟨n, m, e⟩ = ((sg n m : Int) : Rat) * pw e := by
  unfold qv sg
  cases n
  · rfl
  · simp only [if_true]
    rw [Rat.intCast_neg, Rat.neg_mul]
    rfl
theorem sv_sg (d : Dn) (z : Int) : sv d z = sg d.neg (d.m * 2 ^ (d.e - z).toNat) := rfl
theorem addR_sg {n1 n2 n3 : Bool} {X Y M : Nat} (h : addR n1 n2 X Y = (n3, M)) : sg n3 M = sg n1 X + sg n2 Y := by
  unfold addR at h
  unfold sg
  split at h
  · injection h with h1 h2
    subst h1; subst h2
    rename_i e
    subst e
    cases n1 <;> simp <;> omega
  · split at h
    · injection h with h1 h2
      subst h1; subst h2
      cases n1 <;> cases n2 <;> simp_all <;> omega
    · injection h with h1 h2
      subst h1; subst h2
      cases n1 <;> cases n2 <;> simp_all <;> omega
theorem qv_sum (a b : Dn) : qv (sumD a b) = qv a + qv b := by
  have h := addR_sg (n1 := a.neg) (n2 := b.neg) (X := a.m * 2 ^ (a.e - min a.e b.e).toNat) (Y := b.m * 2 ^ (b.e - min a.e b.e).toNat) (n3 := _) (M := _) rfl
  rw [qv_sv (d := a) (z := min a.e b.e) (by omega), qv_sv (d := b) (z := min a.e b.e) (by omega), sv_sg, sv_sg, ← Rat.add_mul, ← Rat.intCast_add, ← h, ← qv_sg]
  rfl
/-- Of a middle size. -/
def Mid (k : Int) (d : Dn) : Prop := -k ≤ d.e ∧ d.e ≤ k ∧ (bitN d.m : Int) + d.e ≤ k
theorem Mid.bits {k : Int} {d : Dn} (h : Mid k d) : (bitN d.m : Int) ≤ k + k := by obtain ⟨h1, h2, h3⟩ := h; omega
theorem Mid.mono {k j : Int} {d : Dn} (h : Mid k d) (hj : k ≤ j) : Mid j d := by obtain ⟨h1, h2, h3⟩ := h; exact ⟨by omega, by omega, by omega⟩
theorem bitN_low2 {m : Nat} (h : m ≠ 0) : bitN (m / 2 ^ low2 m) + low2 m = bitN m := by
  obtain ⟨k, hk⟩ := low2_eq h
  have h1 := odd_eq hk
  have h2 : m = m / 2 ^ low2 m * 2 ^ low2 m := by rw [h1, Nat.mul_comm]; exact hk
  have h3 := bitN_shift (m := m / 2 ^ low2 m) (by rw [h1]; omega) (low2 m)
  rw [← h2] at h3
  exact h3.symm
theorem Mid.bare {k : Int} {d : Dn} (h : Mid k d) (hk : k ≤ 1000000000) (hk0 : 0 ≤ k) : Mid k (bareD d) ∧ (d.m ≠ 0 → d.e ≤ (bareD d).e) ∧ (d.m = 0 → (bareD d).e = 0) ∧ fitsE (bareD d).e = true ∧ qv (bareD d) = qv d := by
  obtain ⟨h1, h2, h3⟩ := h
  refine ⟨?_, ?_, ?_, ?_, qv_bare (by omega) (by omega)⟩
  · by_cases h0 : d.m = 0
    · rw [bareD_zero h0]
      exact ⟨by show -k ≤ 0; omega, hk0, by show (bitN 0 : Int) + 0 ≤ k; rw [bitN_zero]; omega⟩
    · rw [bareD_pos h0]
      have hb := bitN_low2 h0
      have hc : cutE d.e = d.e := by unfold cutE; omega
      have hl := low2_lt h0
      refine ⟨?_, ?_, ?_⟩
      · show -k ≤ cutE d.e + (low2 d.m : Nat); omega
      · show cutE d.e + (low2 d.m : Nat) ≤ k; omega
      · show (bitN (d.m / 2 ^ low2 d.m) : Int) + (cutE d.e + (low2 d.m : Nat)) ≤ k; omega
  · intro h0
    rw [bareD_pos h0]
    have hc : cutE d.e = d.e := by unfold cutE; omega
    show d.e ≤ cutE d.e + (low2 d.m : Nat)
    omega
  · intro h0; rw [bareD_zero h0]
  · by_cases h0 : d.m = 0
    · rw [bareD_zero h0]; rfl
    · rw [bareD_pos h0]
      have hb := bitN_low2 h0
      have hc : cutE d.e = d.e := by unfold cutE; omega
      have hl := low2_lt h0
      unfold fitsE
      rw [Bool.and_eq_true]
      exact ⟨decide_eq_true (by show -1073741824 ≤ cutE d.e + (low2 d.m : Nat); omega), decide_eq_true (by show cutE d.e + (low2 d.m : Nat) ≤ 1073741824; omega)⟩
theorem bareD_bare (d : Dn) (h1 : -1000000000 ≤ (bareD d).e) (h2 : (bareD d).e ≤ 1000000000) : bareD (bareD d) = bareD d := by
  by_cases h0 : d.m = 0
  · rw [bareD_zero h0]; rfl
  · obtain ⟨m, hm⟩ := low2_eq h0
    have ho : (bareD d).m % 2 = 1 := by
      rw [bareD_pos h0]
      show d.m / 2 ^ low2 d.m % 2 = 1
      rw [odd_eq hm]; omega
    generalize bareD d = b at *
    rw [bareD_pos (by omega), low2_odd ho, Nat.pow_zero, Nat.div_one, show cutE b.e = b.e by unfold cutE; omega]
    simp
theorem Mid.sum {k : Int} {a b : Dn} (ha : Mid k a) (hb : Mid k b) : Mid (k + 1) (sumD a b) := by
  obtain ⟨a1, a2, a3⟩ := ha
  obtain ⟨b1, b2, b3⟩ := hb
  refine ⟨?_, ?_, ?_⟩
  · show -(k + 1) ≤ min a.e b.e; omega
  · show min a.e b.e ≤ k + 1; omega
  · show (bitN (addR a.neg b.neg (a.m * 2 ^ (a.e - min a.e b.e).toNat) (b.m * 2 ^ (b.e - min a.e b.e).toNat)).2 : Int) + min a.e b.e ≤ k + 1
    have hX : bitN (a.m * 2 ^ (a.e - min a.e b.e).toNat) ≤ (k - min a.e b.e).toNat := by
      refine Nat.le_trans (bitN_le.2 (by rw [Nat.pow_add]; exact Nat.mul_lt_mul_of_pos_right (bitN_lt a.m) (Nat.two_pow_pos _))) (show bitN a.m + (a.e - min a.e b.e).toNat ≤ _ by omega)
    have hY : bitN (b.m * 2 ^ (b.e - min a.e b.e).toNat) ≤ (k - min a.e b.e).toNat := by
      refine Nat.le_trans (bitN_le.2 (by rw [Nat.pow_add]; exact Nat.mul_lt_mul_of_pos_right (bitN_lt b.m) (Nat.two_pow_pos _))) (show bitN b.m + (b.e - min a.e b.e).toNat ≤ _ by omega)
    generalize a.m * 2 ^ (a.e - min a.e b.e).toNat = X at *
    generalize b.m * 2 ^ (b.e - min a.e b.e).toNat = Y at *
    have hs : bitN (addR a.neg b.neg X Y).2 ≤ (k - min a.e b.e).toNat + 1 := by
      have hX2 := bitN_le.1 hX
      have hY2 := bitN_le.1 hY
      refine bitN_le.2 ?_
      rw [Nat.pow_succ]
      unfold addR
      split
      · show X + Y < _; omega
      · split
        · show X - Y < _; omega
        · show Y - X < _; omega
    omega
theorem addQ_val {k : Int} {a b : Dn} (ha : Mid k a) (hb : Mid k b) (hk : k ≤ 30000) (hk0 : 0 ≤ k) :
    ∃ d : Dn, addQ a b = (d.neg, d.m, d.e, 0) ∧ qv d = qv a + qv b ∧ Mid (k + 1) d ∧ bareD d = d ∧ (∀ z : Int, z ≤ 0 → (a.m ≠ 0 → z ≤ a.e) → (b.m ≠ 0 → z ≤ b.e) → z ≤ d.e) := by
  obtain ⟨A1, A2, A3, A4, A5⟩ := ha.bare (by omega) hk0
  obtain ⟨B1, B2, B3, B4, B5⟩ := hb.bare (by omega) hk0
  unfold addQ
  rw [if_neg (by rw [A4]; decide), if_neg (by rw [B4]; decide)]
  have bb : ∀ d : Dn, Mid (k + 1) (bareD d) → bareD (bareD d) = bareD d := fun d h => bareD_bare d (by have := h.1; omega) (by have := h.2.1; omega)
  by_cases ha0 : (bareD a).m = 0
  · rw [if_pos ha0]
    have hz : qv a = 0 := by rw [← A5]; exact qv_zero ha0
    refine ⟨bareD b, rfl, by rw [B5, hz, Rat.zero_add], B1.mono (by omega), bb _ (B1.mono (by omega)), fun z z0 za zb => ?_⟩
    by_cases h0 : b.m = 0
    · rw [B3 h0]; exact z0
    · have := B2 h0; have := zb h0; omega
  · rw [if_neg ha0]
    have am : a.m ≠ 0 := fun e => ha0 ((bareD_m_zero a).2 e)
    by_cases hb0 : (bareD b).m = 0
    · rw [if_pos hb0]
      have hz : qv b = 0 := by rw [← B5]; exact qv_zero hb0
      refine ⟨bareD a, rfl, by rw [A5, hz, Rat.add_zero], A1.mono (by omega), bb _ (A1.mono (by omega)), fun z z0 za zb => ?_⟩
      have := A2 am; have := za am; omega
    · rw [if_neg hb0]
      have bm : b.m ≠ 0 := fun e => hb0 ((bareD_m_zero b).2 e)
      have hspan : ¬ 65535 < max (topD (bareD a)) (topD (bareD b)) - min (bareD a).e (bareD b).e := by
        have := A1.1; have := A1.2.2; have := B1.1; have := B1.2.2
        unfold topD; omega
      rw [if_neg hspan]
      have hs := A1.sum B1
      obtain ⟨S1, S2, S3, S4, S5⟩ := hs.bare (by omega) (by omega)
      unfold makeQ
      rw [if_pos S4]
      refine ⟨bareD (sumD (bareD a) (bareD b)), rfl, by rw [S5, qv_sum, A5, B5], S1, bb _ S1, fun z z0 za zb => ?_⟩
      by_cases h0 : (sumD (bareD a) (bareD b)).m = 0
      · rw [S3 h0]; exact z0
      · have h1 := S2 h0
        have h2 : (sumD (bareD a) (bareD b)).e = min (bareD a).e (bareD b).e := rfl
        have := A2 am; have := za am; have := B2 bm; have := zb bm
        omega
end Go.Proofs.YtflkemcoomgoiaaDoor

/- Logarithms held between two rationals. Conditions: none. -/
namespace Go.Proofs.YtflkemcoomgoiaaDoor
set_option maxRecDepth 100000
set_option linter.unusedVariables false

/-- The logarithm of x is between l and h. -/
structure LnIn (x l h : Rat) : Prop where
  lo : XL l 1 x
  hi : XL (-h) x 1
section
variable {x y l h l' h' : Rat}
theorem LnIn.pos (k : LnIn x l h) : 0 < x := k.lo.2.1
theorem LnIn.mul (k : LnIn x l h) (k' : LnIn y l' h') : LnIn (x * y) (l + l') (h + h') := by
  have a := k.lo.mul k'.lo
  have b := k.hi.mul k'.hi
  have e : -h + -h' = -(h + h') := by grind
  rw [Rat.one_mul] at a
  rw [e, Rat.one_mul] at b
  exact ⟨a, b⟩
theorem LnIn.le (k : LnIn x l h) (k' : LnIn y l' h') (hxy : x ≤ y) : l ≤ h' := (k.lo.up hxy).le_of k'.hi
theorem LnIn.le_self (k : LnIn x l h) : l ≤ h := k.le k Rat.le_refl
theorem LnIn.wide (k : LnIn x l h) (hl : l' ≤ l) (hh : h ≤ h') : LnIn x l' h' := ⟨k.lo.mono hl, k.hi.mono (by grind)⟩
theorem LnIn.inv (k : LnIn x l h) (hy : 0 < y) (hxy : x * y = 1) : LnIn y (-h) (-l) := by
  have hx := k.pos
  constructor
  · have a := k.hi.scale hy
    rw [hxy, Rat.one_mul] at a
    exact a
  · have a := k.lo.scale hy
    rw [hxy, Rat.one_mul] at a
    have e : - -l = l := by grind
    rw [e]
    exact a
theorem LnIn.one : LnIn 1 0 0 := ⟨XL.of_le (by decide) Rat.le_refl, by rw [show -(0 : Rat) = 0 from rfl]; exact XL.of_le (by decide) Rat.le_refl⟩
theorem one_pow' (n : Nat) : (1 : Rat) ^ n = 1 := by
  induction n with
  | zero => exact Rat.pow_zero _
  | succ n ih => rw [Rat.pow_succ, ih, Rat.mul_one]
theorem LnIn.pow (k : LnIn x l h) (n : Nat) : LnIn (x ^ n) ((n : Rat) * l) ((n : Rat) * h) := by
  have a := k.lo.pow n
  have b := k.hi.pow n
  rw [one_pow'] at a b
  rw [Rat.mul_neg] at b
  exact ⟨a, b⟩
end
theorem pw_unit (s : Nat) : ((2 ^ s : Nat) : Rat) * pw (-(s : Int)) = 1 := by
  rw [← pw_nat, Rat.mul_comm]; exact pw_neg _
/-- By atanh's series: what its bounds tell. -/
theorem ln_of_bounds {A B m L H : Nat} {x r : Rat} (hB : 0 < B) (hx : x * (B : Rat) = (A : Rat)) (x0 : 0 ≤ x) (x1 : 3 * x ≤ 1) (hr : r * ((B : Rat) - (A : Rat)) = (B : Rat) + (A : Rat))
    (K : Nat) (hL : (L : Rat) ≤ ((2 ^ m : Nat) : Rat) * atA x K) (hH : ∀ K, ((2 ^ m : Nat) : Rat) * atA x K ≤ (H : Rat)) : LnIn r (2 * (L : Rat) * pw (-(m : Int))) (2 * (H : Rat) * pw (-(m : Int))) := by
  have hu := pw_unit m
  have up := pw_pos (-(m : Int))
  have bp := rq_nat_pos hB
  generalize pw (-(m : Int)) = u at *
  generalize ((2 ^ m : Nat) : Rat) = S at *
  have dp : 0 < (B : Rat) - (A : Rat) := by
    rw [← hx]
    have := Rat.mul_le_mul_of_nonneg_right x1 (Rat.le_of_lt bp)
    grind
  have e1 : (1 - x) * (B : Rat) = (B : Rat) - (A : Rat) := by rw [← hx]; grind
  have e2 : (1 + x) * (B : Rat) = (B : Rat) + (A : Rat) := by rw [← hx]; grind
  have a1 : (L : Rat) * u ≤ atA x K := by
    have := Rat.mul_le_mul_of_nonneg_right hL (Rat.le_of_lt up)
    have e : S * atA x K * u = S * u * atA x K := by grind
    rw [e, hu, Rat.one_mul] at this
    exact this
  have a2 : ∀ K, 2 * atA x K ≤ 2 * (H : Rat) * u := fun K => by
    have := Rat.mul_le_mul_of_nonneg_right (hH K) (Rat.le_of_lt up)
    have e : S * atA x K * u = S * u * atA x K := by grind
    rw [e, hu, Rat.one_mul] at this
    grind
  have rp : 0 < r := by
    rcases rq_total r 0 with h | h
    · exfalso
      have h1 := Rat.mul_le_mul_of_nonneg_right h (Rat.le_of_lt dp)
      rw [hr, Rat.zero_mul, ← e2] at h1
      have h2 : 0 < (1 + x) * (B : Rat) := Rat.mul_pos (by grind) bp
      grind
    · rcases Rat.le_iff_lt_or_eq.1 h with h | h
      · exact h
      · exfalso
        rw [← h, Rat.zero_mul, ← e2] at hr
        have h2 : 0 < (1 + x) * (B : Rat) := Rat.mul_pos (by grind) bp
        grind
  constructor
  · have k := ((atA_exp_le x0 x1 K).mono (p := 2 * (L : Rat) * u) (by grind)).scale bp
    rw [e1, e2, ← hr] at k
    have e : (B : Rat) - (A : Rat) = 1 * ((B : Rat) - (A : Rat)) := (Rat.one_mul _).symm
    have k2 : XL (2 * (L : Rat) * u) (1 * ((B : Rat) - (A : Rat))) (r * ((B : Rat) - (A : Rat))) := by rw [← e]; exact k
    exact XL.unscale dp (by decide) rp k2
  · have k := (atA_exp_ge x0 x1 a2).scale bp
    rw [e1, e2, ← hr] at k
    have e : (B : Rat) - (A : Rat) = 1 * ((B : Rat) - (A : Rat)) := (Rat.one_mul _).symm
    have k2 : XL (-(2 * (H : Rat) * u)) (r * ((B : Rat) - (A : Rat))) (1 * ((B : Rat) - (A : Rat))) := by rw [← e]; exact k
    exact XL.unscale dp rp (by decide) k2
theorem ln_of_at {A B s L H : Nat} {r : Rat} (o : AtOk A B s L H) (hB : 0 < B) (h3 : 3 * A ≤ B) (hr : r * ((B : Rat) - (A : Rat)) = (B : Rat) + (A : Rat)) : LnIn r (2 * (L : Rat) * pw (-(s : Int))) (2 * (H : Rat) * pw (-(s : Int))) := by
  obtain ⟨x, hx, x0, x1⟩ := at_of hB h3
  exact ln_of_bounds hB hx x0 x1 hr s (o.lo x hx x0) (o.hi x hx x0 x1)
theorem ln_of_ref {A B m : Nat} {r : Rat} (hB : 0 < B) (h3 : 3 * A ≤ B) (hr : r * ((B : Rat) - (A : Rat)) = (B : Rat) + (A : Rat)) :
    LnIn r (2 * ((refAt A B (2 ^ m) (m / 3 + 2) : Nat) : Rat) * pw (-(m : Int))) (2 * ((refAt A B (2 ^ m) (m / 3 + 2) + 8 : Nat) : Rat) * pw (-(m : Int))) := by
  obtain ⟨x, hx, x0, x1⟩ := at_of hB h3
  refine ln_of_bounds hB hx x0 x1 hr (m / 3 + 2 + 1) (refAt_le (Nat.two_pow_pos m) hB hx x0) (fun K => ?_)
  rw [Rat.natCast_add]
  exact refAt_near hB hx x0 x1 K
theorem three_two : (2 : Rat) * (((3 : Nat) : Rat) - ((1 : Nat) : Rat)) = ((3 : Nat) : Rat) + ((1 : Nat) : Rat) := by decide +kernel
/-- The logarithm of 2, and of its powers. -/
theorem ln_two {s L H : Nat} (o : AtOk 1 3 s L H) : LnIn 2 (2 * (L : Rat) * pw (-(s : Int))) (2 * (H : Rat) * pw (-(s : Int))) := ln_of_at o (by decide) (by decide) three_two
theorem ln_two_ref (m : Nat) : LnIn 2 (2 * ((refAt 1 3 (2 ^ m) (m / 3 + 2) : Nat) : Rat) * pw (-(m : Int))) (2 * ((refAt 1 3 (2 ^ m) (m / 3 + 2) + 8 : Nat) : Rat) * pw (-(m : Int))) := ln_of_ref (by decide) (by decide) three_two
theorem pow_two (n : Nat) : (2 : Rat) ^ n = pw (n : Int) := (Rat.zpow_natCast 2 n).symm
/-- Of a power of 2, by its exponent's sign. -/
theorem ln_pw {l h : Rat} (k : LnIn 2 l h) (e : Int) : LnIn (pw e) (if e < 0 then -((e.natAbs : Rat) * h) else (e.natAbs : Rat) * l) (if e < 0 then -((e.natAbs : Rat) * l) else (e.natAbs : Rat) * h) := by
  have p := k.pow e.natAbs
  rw [pow_two] at p
  by_cases he : e < 0
  · rw [if_pos he, if_pos he]
    have h1 : e = -((e.natAbs : Nat) : Int) := by omega
    have hm : pw ((e.natAbs : Nat) : Int) * pw e = 1 := by
      have := pw_neg ((e.natAbs : Nat) : Int)
      rw [Rat.mul_comm, ← h1] at this
      exact this
    exact p.inv (pw_pos e) hm
  · rw [if_neg he, if_neg he]
    have h1 : ((e.natAbs : Nat) : Int) = e := by omega
    rw [h1] at p
    exact p
end Go.Proofs.YtflkemcoomgoiaaDoor

/- What logs.Near and logs.Log tell, plainly. Conditions: none. -/
namespace Go.Proofs.YtflkemcoomgoiaaDoor
set_option maxRecDepth 100000
set_option linter.unusedVariables false

/-- The power of two near M, and its exponent. -/
def nearP (M : Nat) : Nat := if 3 * 2 ^ (bitN M - 1) ≤ 2 * M then 2 ^ (bitN M - 1) + 2 ^ (bitN M - 1) else 2 ^ (bitN M - 1)
def nearE (M : Nat) (E : Int) : Int := if 3 * 2 ^ (bitN M - 1) ≤ 2 * M then topD ⟨false, M, E⟩ + 1 else topD ⟨false, M, E⟩
def nearN (M : Nat) : Nat := if M < nearP M then nearP M - M else M - nearP M
theorem topn_le {M : Nat} (h : M ≠ 0) : 2 ^ (bitN M - 1) ≤ M ∧ M < 2 ^ (bitN M - 1) + 2 ^ (bitN M - 1) := by
  have h1 := bitN_lt M
  have h2 : bitN M ≠ 0 := fun e => by rw [e] at h1; omega
  have e : 2 ^ bitN M = 2 ^ (bitN M - 1) + 2 ^ (bitN M - 1) := by
    rw [show bitN M = bitN M - 1 + 1 by omega, Nat.pow_succ, Nat.add_sub_cancel]; omega
  refine ⟨?_, by omega⟩
  rcases Nat.lt_or_ge M (2 ^ (bitN M - 1)) with h3 | h3
  · have := bitN_le.2 h3; omega
  · exact h3
theorem near_third {M : Nat} (h : M ≠ 0) : 3 * nearN M ≤ M + nearP M ∧ 0 < nearP M := by
  obtain ⟨h1, h2⟩ := topn_le h
  have h3 := Nat.two_pow_pos (bitN M - 1)
  unfold nearN nearP
  generalize 2 ^ (bitN M - 1) = P at *
  (repeat' split) <;> omega
theorem near_pw {M : Nat} {E : Int} (h : M ≠ 0) : (nearP M : Rat) * pw E = pw (nearE M E) := by
  have hb : bitN M ≠ 0 := fun e => by
    have := bitN_lt M
    rw [e] at this; omega
  unfold nearP nearE topD
  split
  · rw [show 2 ^ (bitN M - 1) + 2 ^ (bitN M - 1) = 2 ^ (bitN M) by
      rw [show bitN M = bitN M - 1 + 1 by omega, Nat.pow_succ, Nat.add_sub_cancel]; omega, ← pw_nat, ← pw_add]
    congr 1
    show (bitN M : Int) + E = (bitN M : Nat) - 1 + E + 1
    omega
  · rw [← pw_nat, ← pw_add]
    congr 1
    show ((bitN M - 1 : Nat) : Int) + E = (bitN M : Nat) - 1 + E
    omega
theorem near_top {M : Nat} {E : Int} : topD ⟨false, M, E⟩ ≤ nearE M E ∧ nearE M E ≤ topD ⟨false, M, E⟩ + 1 := by
  unfold nearE; split <;> omega
/-- The logarithm of M, divided by the power of two near it. -/
theorem near_ln {M s L H : Nat} {E : Int} (h : M ≠ 0) (o : AtOk (nearN M) (M + nearP M) s L H) :
    ∃ r : Rat, r * pw (nearE M E) = (M : Rat) * pw E ∧ LnIn r (if M < nearP M then -(2 * (H : Rat) * pw (-(s : Int))) else 2 * (L : Rat) * pw (-(s : Int))) (if M < nearP M then -(2 * (L : Rat) * pw (-(s : Int))) else 2 * (H : Rat) * pw (-(s : Int))) := by
  obtain ⟨h3, hP⟩ := near_third h
  have hPp := rq_nat_pos hP
  have hM := rq_nat_pos (Nat.pos_of_ne_zero h)
  obtain ⟨ip, ic⟩ := rq_inv_pos hPp
  obtain ⟨jp, jc⟩ := rq_inv_pos hM
  refine ⟨(M : Rat) * (nearP M : Rat)⁻¹, ?_, ?_⟩
  · rw [← near_pw (E := E) h]
    have e : (M : Rat) * (nearP M : Rat)⁻¹ * ((nearP M : Rat) * pw E) = ((nearP M : Rat)⁻¹ * (nearP M : Rat)) * ((M : Rat) * pw E) := by grind
    rw [e, ic, Rat.one_mul]
  · by_cases hlt : M < nearP M
    · rw [if_pos hlt, if_pos hlt]
      have hN : nearN M = nearP M - M := by unfold nearN; rw [if_pos hlt]
      have eN : ((nearN M : Nat) : Rat) = (nearP M : Rat) - (M : Rat) := by
        have : ((nearN M + M : Nat) : Rat) = (nearP M : Rat) := by rw [hN]; congr 1; omega
        rw [Rat.natCast_add] at this
        grind
      have k := ln_of_at (r := (nearP M : Rat) * (M : Rat)⁻¹) o (by omega) h3 (by
        rw [eN, Rat.natCast_add]
        have e : (nearP M : Rat) * (M : Rat)⁻¹ * ((M : Rat) + (nearP M : Rat) - ((nearP M : Rat) - (M : Rat))) = (nearP M : Rat) * 2 * ((M : Rat)⁻¹ * (M : Rat)) := by grind
        rw [e, jc]; grind)
      refine k.inv (Rat.mul_pos hM ip) ?_
      have e : (nearP M : Rat) * (M : Rat)⁻¹ * ((M : Rat) * (nearP M : Rat)⁻¹) = ((M : Rat)⁻¹ * (M : Rat)) * ((nearP M : Rat)⁻¹ * (nearP M : Rat)) := by grind
      rw [e, jc, ic, Rat.one_mul]
    · rw [if_neg hlt, if_neg hlt]
      have hN : nearN M = M - nearP M := by unfold nearN; rw [if_neg hlt]
      have eN : ((nearN M : Nat) : Rat) = (M : Rat) - (nearP M : Rat) := by
        have : ((nearN M + nearP M : Nat) : Rat) = (M : Rat) := by rw [hN]; congr 1; omega
        rw [Rat.natCast_add] at this
        grind
      exact ln_of_at o (by omega) h3 (by
        rw [eN, Rat.natCast_add]
        have e : (M : Rat) * (nearP M : Rat)⁻¹ * ((M : Rat) + (nearP M : Rat) - ((M : Rat) - (nearP M : Rat))) = (M : Rat) * 2 * ((nearP M : Rat)⁻¹ * (nearP M : Rat)) := by grind
        rw [e, ic]; grind)
/-- What is told of a dyad's logarithm. -/
structure LogOk (d lo hi : Dn) (s : Nat) : Prop where
  ln : LnIn (qv d) (qv lo) (qv hi)
  wide : qv hi ≤ qv lo + (((topD d).natAbs + 2 : Nat) : Rat) * ((2 * s + 128 : Nat) : Rat) * pw (-(s : Int))
  eLo : -(s : Int) ≤ lo.e
  eHi : -(s : Int) ≤ hi.e
  one : d.m = 1 → d.e = 0 → lo.m = 0 ∧ hi.m = 0
  bLo : bareD lo = lo
  bHi : bareD hi = hi
  mLo : Mid 10000 lo
  mHi : Mid 10000 hi
theorem qv_m_zero {d : Dn} (h : qv d = 0) : d.m = 0 := by
  rcases Nat.eq_zero_or_pos d.m with h0 | h0
  · exact h0
  · exfalso
    have hp : 0 < (d.m : Rat) * pw d.e := Rat.mul_pos (rq_nat_pos h0) (pw_pos _)
    unfold qv at h
    split at h
    · grind
    · grind
/-- The parts' ends, as they are told. -/
def endLo (neg : Bool) (L H s : Nat) : Dn := ⟨neg, if neg then H else L, -(s : Int)⟩
def endHi (neg : Bool) (L H s : Nat) : Dn := ⟨neg, if neg then L else H, -(s : Int)⟩
theorem endLo_mid {neg : Bool} {L H s : Nat} (hLH : L ≤ H) (hs : s ≤ 9000) (hb : bitN H ≤ s + 60) : Mid 9100 (endLo neg L H s) := by
  have := bitN_mono hLH
  refine ⟨?_, ?_, ?_⟩
  · show -9100 ≤ -(s : Int); omega
  · show -(s : Int) ≤ 9100; omega
  · show (bitN (if neg then H else L) : Int) + -(s : Int) ≤ 9100
    cases neg
    · show (bitN L : Int) + -(s : Int) ≤ 9100; omega
    · show (bitN H : Int) + -(s : Int) ≤ 9100; omega
theorem endHi_mid {neg : Bool} {L H s : Nat} (hLH : L ≤ H) (hs : s ≤ 9000) (hb : bitN H ≤ s + 60) : Mid 9100 (endHi neg L H s) := by
  have := bitN_mono hLH
  refine ⟨?_, ?_, ?_⟩
  · show -9100 ≤ -(s : Int); omega
  · show -(s : Int) ≤ 9100; omega
  · show (bitN (if neg then L else H) : Int) + -(s : Int) ≤ 9100
    cases neg
    · show (bitN H : Int) + -(s : Int) ≤ 9100; omega
    · show (bitN L : Int) + -(s : Int) ≤ 9100; omega
theorem at_size {A B s L H : Nat} (o : AtOk A B s L H) (h2 : s ≤ 9000) : bitN (H * 2) ≤ s + 20 := by
  have h0 := Nat.two_pow_pos s
  have h3 := o.short
  have h4 := o.wide
  have h5 : s * 2 ^ s ≤ 9000 * 2 ^ s := Nat.mul_le_mul_right _ h2
  refine bitN_le.2 ?_
  rw [Nat.pow_add]
  omega
theorem qv_endLo (neg : Bool) (L H s : Nat) : qv (endLo neg L H s) = if neg then -((H : Rat) * pw (-(s : Int))) else (L : Rat) * pw (-(s : Int)) := by
  cases neg <;> rfl
theorem qv_endHi (neg : Bool) (L H s : Nat) : qv (endHi neg L H s) = if neg then -((L : Rat) * pw (-(s : Int))) else (H : Rat) * pw (-(s : Int)) := by
  cases neg <;> rfl
theorem pow20 : bitN 1048578 ≤ 21 := bitN_le.2 (by decide)
set_option maxHeartbeats 1000000 in
theorem log_ok {M s L H L2 H2 n : Nat} {E : Int} {ng eg : Bool} (h : M ≠ 0) (s1 : 8 ≤ s) (s2 : s ≤ 9000) (ht : -1048576 ≤ topD ⟨false, M, E⟩) (ht2 : topD ⟨false, M, E⟩ ≤ 1048576)
    (o : AtOk (nearN M) (M + nearP M) s L H) (hz : nearN M = 0 → L = 0 ∧ H = 0) (o2 : AtOk 1 3 s L2 H2) (hn : (nearE M E).natAbs = n) (hng : decide (M < nearP M) = ng) (heg : decide (nearE M E < 0) = eg) :
    ∃ lo hi : Dn, addQ (bareD (endLo ng (L * 2) (H * 2) s)) (bareD (endLo eg ((L2 + L2) * n) ((H2 + H2) * n) s)) = (lo.neg, lo.m, lo.e, 0) ∧
      addQ (bareD (endHi ng (L * 2) (H * 2) s)) (bareD (endHi eg ((L2 + L2) * n) ((H2 + H2) * n) s)) = (hi.neg, hi.m, hi.e, 0) ∧ LogOk ⟨false, M, E⟩ lo hi s := by
  obtain ⟨t1, t2⟩ := near_top (M := M) (E := E)
  have n1 : n ≤ 1048577 := by omega
  have le1 : L * 2 ≤ H * 2 := Nat.mul_le_mul_right _ o.le
  have le2 : (L2 + L2) * n ≤ (H2 + H2) * n := Nat.mul_le_mul_right _ (by have := o2.le; omega)
  have b1 := at_size o s2
  have b2 : bitN ((H2 + H2) * n) ≤ s + 60 := by
    have h1 := at_size o2 s2
    have h2 : bitN n ≤ 21 := Nat.le_trans (bitN_mono (show n ≤ 1048578 by omega)) pow20
    refine Nat.le_trans (bitN_mul_le _ _) ?_
    rw [show H2 + H2 = H2 * 2 by omega]
    omega
  have mx1 := endLo_mid (neg := ng) (s := s) le1 s2 (by omega)
  have mx2 := endHi_mid (neg := ng) (s := s) le1 s2 (by omega)
  have my1 := endLo_mid (neg := eg) (s := s) le2 s2 b2
  have my2 := endHi_mid (neg := eg) (s := s) le2 s2 b2
  obtain ⟨x1, x1e, x1z, -, x1v⟩ := mx1.bare (by omega) (by omega)
  obtain ⟨x2, x2e, x2z, -, x2v⟩ := mx2.bare (by omega) (by omega)
  obtain ⟨y1, y1e, y1z, -, y1v⟩ := my1.bare (by omega) (by omega)
  obtain ⟨y2, y2e, y2z, -, y2v⟩ := my2.bare (by omega) (by omega)
  obtain ⟨lo, q1, v1, m1, w1, z1⟩ := addQ_val x1 y1 (by omega) (by omega)
  obtain ⟨hi, q2, v2, m2, w2, z2⟩ := addQ_val x2 y2 (by omega) (by omega)
  have ez : ∀ d : Dn, -(s : Int) ≤ d.e → (d.m ≠ 0 → d.e ≤ (bareD d).e) → (bareD d).m ≠ 0 → -(s : Int) ≤ (bareD d).e := fun d h1 h2 h3 => by
    have := h2 (fun e => h3 ((bareD_m_zero d).2 e)); omega
  rw [x1v, y1v, qv_endLo, qv_endLo] at v1
  rw [x2v, y2v, qv_endHi, qv_endHi] at v2
  obtain ⟨r, hr, kr⟩ := near_ln (E := E) h o
  have kp := ln_pw (ln_two o2) (nearE M E)
  have k := kr.mul kp
  rw [hr] at k
  rw [hn] at k
  have u0 := pw_pos (-(s : Int))
  have cL : (((L * 2 : Nat)) : Rat) = 2 * (L : Rat) := by rw [Rat.natCast_mul]; show (L : Rat) * 2 = _; grind
  have cH : (((H * 2 : Nat)) : Rat) = 2 * (H : Rat) := by rw [Rat.natCast_mul]; show (H : Rat) * 2 = _; grind
  have cL2 : ((((L2 + L2) * n : Nat)) : Rat) = (n : Rat) * (2 * (L2 : Rat)) := by rw [Rat.natCast_mul, Rat.natCast_add]; grind
  have cH2 : ((((H2 + H2) * n : Nat)) : Rat) = (n : Rat) * (2 * (H2 : Rat)) := by rw [Rat.natCast_mul, Rat.natCast_add]; grind
  rw [cL, cH, cL2, cH2] at v1 v2
  have hw1 : ((H : Nat) : Rat) ≤ (L : Rat) + ((s + 64 : Nat) : Rat) := by rw [← Rat.natCast_add]; exact Rat.natCast_le_natCast.2 o.wide
  have hw2 : ((H2 : Nat) : Rat) ≤ (L2 : Rat) + ((s + 64 : Nat) : Rat) := by rw [← Rat.natCast_add]; exact Rat.natCast_le_natCast.2 o2.wide
  have n0 := rq_nat_nonneg n
  have cN : ((n : Nat) : Rat) ≤ (((topD ⟨false, M, E⟩).natAbs + 1 : Nat) : Rat) := Rat.natCast_le_natCast.2 (by omega)
  have c128 : ((2 * s + 128 : Nat) : Rat) = 2 * ((s + 64 : Nat) : Rat) := by
    rw [show 2 * s + 128 = 2 * (s + 64) by omega, Rat.natCast_mul]; rfl
  have cT : (((topD ⟨false, M, E⟩).natAbs + 2 : Nat) : Rat) = (((topD ⟨false, M, E⟩).natAbs + 1 : Nat) : Rat) + 1 := by
    rw [show (topD ⟨false, M, E⟩).natAbs + 2 = (topD ⟨false, M, E⟩).natAbs + 1 + 1 by omega, Rat.natCast_add]; rfl
  have w0 := rq_nat_nonneg (s + 64)
  have lnk : LnIn ((M : Rat) * pw E) (qv lo) (qv hi) := by
    refine k.wide ?_ ?_
    · rw [v1, ← hng, ← heg]
      by_cases c1 : M < nearP M <;> by_cases c2 : nearE M E < 0 <;> simp only [c1, c2, decide_true, decide_false, if_true, if_false, Bool.false_eq_true] <;> grind
    · rw [v2, ← hng, ← heg]
      by_cases c1 : M < nearP M <;> by_cases c2 : nearE M E < 0 <;> simp only [c1, c2, decide_true, decide_false, if_true, if_false, Bool.false_eq_true] <;> grind
  refine ⟨lo, hi, q1, q2, ⟨lnk, ?_, ?_, ?_, ?_, w1, w2, m1.mono (by omega), m2.mono (by omega)⟩⟩
  · rw [c128, cT, v1, v2]
    generalize pw (-(s : Int)) = u at *
    generalize ((s + 64 : Nat) : Rat) = W at *
    generalize (((topD ⟨false, M, E⟩).natAbs + 1 : Nat) : Rat) = T at *
    have a1 := Rat.mul_le_mul_of_nonneg_right hw1 (Rat.le_of_lt u0)
    have a2 := Rat.mul_le_mul_of_nonneg_left (Rat.mul_le_mul_of_nonneg_right hw2 (Rat.le_of_lt u0)) n0
    have a3 := Rat.mul_le_mul_of_nonneg_right cN (Rat.mul_nonneg w0 (Rat.le_of_lt u0))
    clear k kr kp lnk hr v1 v2 hw1 hw2 cN
    cases ng <;> cases eg <;> simp only [if_true, if_false, Bool.false_eq_true] <;> grind
  · exact z1 _ (by omega) (ez _ (by show -(s : Int) ≤ -(s : Int); omega) x1e) (ez _ (by show -(s : Int) ≤ -(s : Int); omega) y1e)
  · exact z2 _ (by omega) (ez _ (by show -(s : Int) ≤ -(s : Int); omega) x2e) (ez _ (by show -(s : Int) ≤ -(s : Int); omega) y2e)
  · intro hM1 hE0
    have hM1' : M = 1 := hM1
    have hE0' : E = 0 := hE0
    subst hM1'
    subst hE0'
    have p1 : nearN 1 = 0 := by decide
    have p2 : nearE 1 0 = 0 := by decide
    obtain ⟨l0, h0⟩ := hz p1
    have hn0 : n = 0 := by rw [← hn, p2]; rfl
    subst l0; subst h0; subst hn0
    have r0 : ((0 : Nat) : Rat) = 0 := rfl
    rw [r0] at v1 v2
    refine ⟨qv_m_zero ?_, qv_m_zero ?_⟩
    · rw [v1]; cases ng <;> cases eg <;> simp only [if_true, if_false, Bool.false_eq_true] <;> grind
    · rw [v2]; cases ng <;> cases eg <;> simp only [if_true, if_false, Bool.false_eq_true] <;> grind
end Go.Proofs.YtflkemcoomgoiaaDoor
