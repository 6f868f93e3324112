/- Where exp of a class' logarithm is: plainly. Conditions: none. -/
import Derived.Test.YtflkemcoomgoiaaDoorExpG
import Derived.Test.YtflkemcoomgoiaaDoorRndVal
import Derived.Test.YtflkemcoomgoiaaDoorBdA
import Derived.Test.YtflkemcoomgoiaaDoorBdC
namespace Go.Proofs.YtflkemcoomgoiaaDoor
set_option maxRecDepth 100000
set_option linter.unusedVariables false

theorem ln2_fine : ∃ l h : Rat, LnIn 2 l h ∧ h ≤ 69318 / 100000 := by
  refine ⟨_, _, ln_two_ref 20, ?_⟩
  have h1 : refAt 1 3 (2 ^ 20) (20 / 3 + 2) + 8 ≤ 363425 := by decide +kernel
  have h2 := Rat.mul_le_mul_of_nonneg_right (rq_le h1) (show (0 : Rat) ≤ 2 * pw (-((20 : Nat) : Int)) from Rat.mul_nonneg (by decide) (Rat.le_of_lt (pw_pos _)))
  have h3 := pw_unit 20
  have e20 : ((2 ^ 20 : Nat) : Rat) = 1048576 := by decide +kernel
  rw [e20] at h3
  have e36 : ((363425 : Nat) : Rat) = 363425 := rfl
  rw [e36] at h2
  generalize pw (-((20 : Nat) : Int)) = p at *
  generalize ((refAt 1 3 (2 ^ 20) (20 / 3 + 2) + 8 : Nat) : Rat) = r at *
  have h4 : p = 1 / 1048576 := by grind
  rw [h4] at h2 ⊢
  grind
/-- A power of two, by its exponent times ln 2. -/
theorem pw_exp {n : Nat} {q : Rat} (h : (n : Rat) * (69318 / 100000) + 1 / 10 ≤ q) : XL (-q) (pw (n : Int) * (11 / 10)) 1 := by
  obtain ⟨l, u, k, hu⟩ := ln2_fine
  have kp := (k.pow n).hi
  rw [pow_two] at kp
  have k2 := kp.mul (XL.neg_lin (q := 1 / 10) (by decide +kernel))
  rw [Rat.mul_one, show (1 : Rat) + 1 / 10 = 11 / 10 by decide +kernel] at k2
  refine k2.mono ?_
  have := Rat.mul_le_mul_of_nonneg_left hu (rq_nat_nonneg n)
  grind

theorem tiny_175 : pw (-175) * 40 ≤ pw (-60) ∧ pw (-60) * 64 = pw (-54) ∧ pw (-60) * 128 = pw (-53) ∧ pw (-60) ≤ 1 / 1000000 ∧ 0 < pw (-175) := by
  have a1 : pw (-60) * pw 6 = pw (-54) := by rw [← pw_add]; rfl
  have a2 : pw (-60) * pw 7 = pw (-53) := by rw [← pw_add]; rfl
  have a3 : pw (-175) * pw 115 = pw (-60) := by rw [← pw_add]; rfl
  have b1 : pw 6 = 64 := by have := pw_nat 6; rw [show ((6 : Nat) : Int) = 6 from rfl] at this; rw [this]; decide +kernel
  have b2 : pw 7 = 128 := by have := pw_nat 7; rw [show ((7 : Nat) : Int) = 7 from rfl] at this; rw [this]; decide +kernel
  have b3 : 40 ≤ pw 115 := by have := pw_nat 115; rw [show ((115 : Nat) : Int) = 115 from rfl] at this; rw [this]; decide +kernel
  rw [b1] at a1
  rw [b2] at a2
  have hp := pw_pos (-175)
  have h3 := Rat.mul_le_mul_of_nonneg_left b3 (Rat.le_of_lt hp)
  refine ⟨by grind, a1, a2, ?_, hp⟩
  have c1 : pw (-60) * pw 60 = 1 := by rw [← pw_add]; rfl
  have c2 : 1000000 ≤ pw 60 := by have := pw_nat 60; rw [show ((60 : Nat) : Int) = 60 from rfl] at this; rw [this]; decide +kernel
  have h4 := Rat.mul_le_mul_of_nonneg_left c2 (Rat.le_of_lt (pw_pos (-60)))
  grind
section
variable {d lo hi : Dn} {k : Int} (o : ExpV d lo hi 200 k) (v1 : -1024 < qv d) (v2 : qv d < 1024)
include o v1 v2
/-- Both ends are near each other. -/
theorem so_near : 0 < qv lo ∧ qv lo ≤ qv hi ∧ qv hi ≤ qv lo + qv lo * pw (-175) := by
  obtain ⟨hk, -, -⟩ := o.mid v1 v2 (by decide)
  have hl := o.low
  have ht := o.thin
  have hp := pw_pos k
  have hN : 8 * 200 + 131 + 3 * k.natAbs * (2 * 200 + 128) ≤ 33554432 := by omega
  have hq := rq_le hN
  have e1 : pw (-(((200 : Nat) : Int) - k)) = pw (-200) * pw k := by rw [← pw_add]; congr 1; omega
  have e2 : pw (-175) = pw 25 * pw (-200) := by rw [← pw_add]; rfl
  have e3 : pw 25 = 33554432 := by
    have := pw_nat 25
    rw [show ((25 : Nat) : Int) = 25 from rfl] at this
    rw [this]; decide +kernel
  have e4 : ((33554432 : Nat) : Rat) = 33554432 := rfl
  rw [e4] at hq
  rw [e1] at ht
  have h2 := pw_pos (-200)
  have h3 := Rat.mul_le_mul_of_nonneg_right hq (Rat.le_of_lt (Rat.mul_pos h2 hp))
  have h4 := Rat.mul_le_mul_of_nonneg_left hl (show 0 ≤ pw (-175) from Rat.le_of_lt (pw_pos _))
  rw [e2, e3] at h4 ⊢
  refine ⟨by grind, o.le, ?_⟩
  generalize ((8 * 200 + 131 + 3 * k.natAbs * (2 * 200 + 128) : Nat) : Rat) = N at *
  generalize pw (-200) = a at *
  generalize pw k = b at *
  grind
theorem so_over (h : 710 ≤ qv d) : pw 1024 ≤ qv lo := by
  obtain ⟨n1, n2, n3⟩ := so_near o v1 v2
  obtain ⟨t1, t2, t3, t4, t5⟩ := tiny_175
  have h1 := pw_exp (n := 1024) (q := qv d) (by have : ((1024 : Nat) : Rat) = 1024 := rfl
                                                rw [this]; grind)
  have h2 := exp_le h1 o.x2
  have h3 := Rat.mul_le_mul_of_nonneg_left (show pw (-175) ≤ 1 / 10 by grind) (Rat.le_of_lt n1)
  rw [show ((1024 : Nat) : Int) = 1024 from rfl] at h2
  grind
theorem so_under (h : qv d ≤ -746) : qv hi < pw (-1075) := by
  obtain ⟨n1, n2, n3⟩ := so_near o v1 v2
  obtain ⟨t1, t2, t3, t4, t5⟩ := tiny_175
  have h1 := pw_exp (n := 1075) (q := -(qv d)) (by have : ((1075 : Nat) : Rat) = 1075 := rfl
                                                   rw [this]; grind)
  have h2 := o.x1.mul h1
  rw [show -(qv d) + -(-(qv d)) = 0 by grind, Rat.mul_one] at h2
  have h3 := h2.zero_le
  rw [show ((1075 : Nat) : Int) = 1075 from rfl] at h3
  have e : pw (-1075) * pw 1075 = 1 := pw_neg 1075
  have hp := pw_pos 1075
  have h5 := Rat.mul_lt_mul_of_pos_left (show pw (-175) < 1 / 10 by grind) n1
  have h6 : qv hi < qv lo * (11 / 10) := by grind
  have h7 := Rat.mul_lt_mul_of_pos_right h6 hp
  have h8 : qv hi * pw 1075 < 1 := by grind
  by_cases c : pw (-1075) ≤ qv hi
  · have := Rat.mul_le_mul_of_nonneg_right c (Rat.le_of_lt hp)
    exfalso; grind
  · exact Rat.not_le.1 c
theorem so_more (h1 : 0 < qv d) (h2 : qv d < pw (-60)) : 1 < qv hi ∧ qv hi < 1 + pw (-53) ∧ qv lo < 1 + pw (-53) := by
  obtain ⟨n1, n2, n3⟩ := so_near o v1 v2
  obtain ⟨t1, t2, t3, t4, t5⟩ := tiny_175
  have a1 := exp_le (XL.neg_lin (Rat.le_of_lt h1)) o.x2
  have a2 := o.x1.mul (XL.pos_lin (Rat.le_of_lt h1) (by grind))
  rw [show -(qv d) + qv d = 0 by grind, Rat.mul_one] at a2
  have a3 := a2.zero_le
  generalize qv d = v at *
  have a4 : qv lo ≤ 1 + 2 * v := by
    by_cases c : qv lo ≤ 1 + 2 * v
    · exact c
    · have c := Rat.not_le.1 c
      have b1 := Rat.mul_lt_mul_of_pos_right c (show 0 < 1 - v by grind)
      have b2 : 0 ≤ v * (1 - 2 * v) := Rat.mul_nonneg (Rat.le_of_lt h1) (by grind)
      have b3 : (1 + 2 * v) * (1 - v) = 1 + v * (1 - 2 * v) := by grind
      rw [b3] at b1
      exfalso; grind
  have a5 := Rat.mul_le_mul_of_nonneg_right (show qv lo ≤ 2 by grind) (Rat.le_of_lt t5)
  refine ⟨by grind, by grind, by grind⟩
theorem so_less (h1 : qv d < 0) (h2 : -pw (-60) < qv d) : qv lo < 1 ∧ 1 - pw (-54) < qv lo ∧ 1 - pw (-54) < qv hi := by
  obtain ⟨n1, n2, n3⟩ := so_near o v1 v2
  obtain ⟨t1, t2, t3, t4, t5⟩ := tiny_175
  have a1 := o.x1.mul (XL.neg_lin (q := -(qv d)) (by grind))
  rw [show -(qv d) + -(-(qv d)) = 0 by grind, Rat.mul_one] at a1
  have a2 := a1.zero_le
  have a3 := (XL.pos_lin (q := -(qv d)) (by grind) (by grind)).mul o.x2
  rw [show -(qv d) + qv d = 0 by grind, Rat.mul_one, Rat.one_mul] at a3
  have a4 := a3.zero_le
  generalize qv d = v at *
  have a5 : 0 < qv lo * (-v) := Rat.mul_pos n1 (by grind)
  have a6 : qv lo < 1 := by grind
  have a7 := Rat.mul_le_mul_of_nonneg_right (Rat.le_of_lt a6) (Rat.le_of_lt t5)
  refine ⟨a6, by grind, by grind⟩
end
end Go.Proofs.YtflkemcoomgoiaaDoor

/- Rounding just above and just below one, and of what overflows and underflows: plainly, by values. Conditions: none. -/
namespace Go.Proofs.YtflkemcoomgoiaaDoor
set_option maxRecDepth 100000
open Go.RowKit
set_option linter.unusedVariables false

theorem upB_zero (n : Bool) : upB 0 n = false := by cases n <;> rfl
theorem hb_le (h : Bool) : hb h ≤ 1 := by cases h <;> decide
theorem round_above {n more : Bool} {M : Nat} {E dir : Int} (h1 : 1 < (M : Rat) * pw E) (h2 : (M : Rat) * pw E < 1 + pw (-53)) : toB n M E more dir = (signedB (moreB dir n) n, 1) := by
  have p53 : pw (-53) * pw 53 = 1 := by rw [← pw_add]; rfl
  have e53 : pw 53 = ((9007199254740992 : Nat) : Rat) := pw_nat 53
  have q53 : pw (-53) ≤ 1 := by have := pw_mono (show (-53 : Int) ≤ 0 by decide); rw [pw_zero] at this; exact this
  have e1 : pw (0 + 1) = 2 := pw_one
  have ht : topD ⟨n, M, E⟩ = 0 := top_val (by rw [pw_zero]; exact Rat.le_of_lt h1) (by rw [e1]; grind)
  obtain ⟨q, h, b, hp⟩ : ∃ q h b, partsP M E (-52) = (q, h, b) := ⟨_, _, _, rfl⟩
  obtain ⟨a1, a2, a3, a4⟩ := parts_val hp
  rw [show (1 : Int) - -52 = 53 by decide] at a1 a2 a3 a4
  have hp53 := pw_pos 53
  have b1 := Rat.mul_lt_mul_of_pos_right h1 hp53
  have b2 := Rat.mul_lt_mul_of_pos_right h2 hp53
  rw [Rat.one_mul] at b1
  rw [Rat.add_mul, Rat.one_mul, p53] at b2
  rw [e53] at b1 b2 a1 a2 a3 a4
  have hT : 2 * q + hb h = 9007199254740992 := by
    have c1 : ((9007199254740992 : Nat) : Rat) < ((2 * q + hb h + 1 : Nat) : Rat) := by rw [Rat.natCast_add]; show _ < _ + (1 : Rat); grind
    have c2 : ((2 * q + hb h : Nat) : Rat) < ((9007199254740992 + 1 : Nat) : Rat) := by rw [Rat.natCast_add 9007199254740992 1]; show _ < _ + (1 : Rat); grind
    have := Rat.natCast_lt_natCast.1 c1
    have := Rat.natCast_lt_natCast.1 c2
    omega
  have hh := hb_le h
  have hq : q = 4503599627370496 := by omega
  obtain rfl : h = false := by
    cases h
    · rfl
    · have : hb true = 1 := rfl
      omega
  obtain rfl : b = true := by
    cases b
    · have := a3 rfl
      rw [this, hT] at b1
      exfalso; grind
    · rfl
  have hu : unitB 0 = -52 := by decide
  have hw : wholeP n M E more dir (-52) = (if upB dir n then 4503599627370497 else 4503599627370496, true) := by
    unfold wholeP
    rw [hp]
    dsimp only
    rw [hq]
    unfold awayB
    by_cases hd : dir = 0
    · rw [hd, if_pos rfl, upB_zero]; rfl
    · rw [if_neg hd]
      cases upB dir n <;> rfl
  unfold toB
  rw [ht, if_neg (by decide), if_neg (by decide)]
  unfold flagB sizeB moreB
  rw [ht, hu, hw]
  cases upB dir n <;> rfl
theorem round_below {n more : Bool} {M : Nat} {E dir : Int} (h1 : 1 - pw (-54) < (M : Rat) * pw E) (h2 : (M : Rat) * pw E < 1) : toB n M E more dir = (signedB (lessB dir n) n, 1) := by
  have p54 : pw (-54) * pw 54 = 1 := by rw [← pw_add]; rfl
  have e54 : pw 54 = ((18014398509481984 : Nat) : Rat) := pw_nat 54
  have q54 : pw (-54) ≤ pw (-1) := pw_mono (by decide)
  have q1 : pw (-1) * 2 = 1 := by have := pw_neg 1; rw [pw_one] at this; exact this
  have ht : topD ⟨n, M, E⟩ = -1 := top_val (by grind) (by rw [show (-1 : Int) + 1 = 0 by decide, pw_zero]; exact h2)
  obtain ⟨q, h, b, hp⟩ : ∃ q h b, partsP M E (-53) = (q, h, b) := ⟨_, _, _, rfl⟩
  obtain ⟨a1, a2, a3, a4⟩ := parts_val hp
  rw [show (1 : Int) - -53 = 54 by decide] at a1 a2 a3 a4
  have hp54 := pw_pos 54
  have b1 := Rat.mul_lt_mul_of_pos_right h1 hp54
  have b2 := Rat.mul_lt_mul_of_pos_right h2 hp54
  rw [Rat.one_mul] at b2
  rw [show (1 - pw (-54)) * pw 54 = pw 54 - 1 by grind] at b1
  rw [e54] at b1 b2 a1 a2 a3 a4
  have hT : 2 * q + hb h + 1 = 18014398509481984 := by
    have c1 : ((18014398509481984 : Nat) : Rat) < ((2 * q + hb h + 1 + 1 : Nat) : Rat) := by rw [Rat.natCast_add, Rat.natCast_add]; show _ < _ + (1 : Rat) + (1 : Rat); grind
    have c2 : ((2 * q + hb h : Nat) : Rat) < ((18014398509481984 : Nat) : Rat) := by grind
    have := Rat.natCast_lt_natCast.1 c1
    have := Rat.natCast_lt_natCast.1 c2
    omega
  have hh := hb_le h
  have hq : q = 9007199254740991 := by omega
  obtain rfl : h = true := by
    cases h
    · have : hb false = 0 := rfl
      omega
    · rfl
  obtain rfl : b = true := by
    cases b
    · have h3 := a3 rfl
      rw [h3] at b1
      have c3 : ((18014398509481984 : Nat) : Rat) = ((2 * q + hb true : Nat) : Rat) + 1 := by rw [← hT, Rat.natCast_add]; rfl
      exfalso; grind
    · rfl
  have hu : unitB (-1) = -53 := by decide
  have hw : wholeP n M E more dir (-53) = (if decide (dir = 0) || upB dir n then 9007199254740992 else 9007199254740991, true) := by
    unfold wholeP
    rw [hp]
    dsimp only
    rw [hq]
    unfold awayB
    by_cases hd : dir = 0
    · rw [hd, if_pos rfl, decide_eq_true rfl, Bool.true_or]; rfl
    · rw [if_neg hd, decide_eq_false hd, Bool.false_or]
      cases upB dir n <;> rfl
  unfold toB
  rw [ht, if_neg (by decide), if_neg (by decide)]
  unfold flagB sizeB lessB
  rw [ht, hu, hw]
  cases (decide (dir = 0) || upB dir n) <;> rfl
theorem round_over {n more : Bool} {M : Nat} {E dir : Int} (h : pw 1024 ≤ (M : Rat) * pw E) : toB n M E more dir = (overB n dir, 5) := by
  unfold toB
  rw [if_pos (by have := (top_ge (n := n) h).1; omega)]
theorem round_under {n more : Bool} {M : Nat} {E dir : Int} (h0 : M ≠ 0) (h : (M : Rat) * pw E < pw (-1075)) : toB n M E more dir = (underB n dir, 3) := by
  have := top_lt (n := n) h0 h
  unfold toB
  rw [if_neg (by omega), if_pos this]
end Go.Proofs.YtflkemcoomgoiaaDoor

/- What BoundSo asks, plainly: the classes by values, both ends rounded. Conditions: none. -/
namespace Go.Proofs.YtflkemcoomgoiaaDoor
set_option maxRecDepth 100000
open Go.RowKit
set_option linter.unusedVariables false

/-- A class by the value. -/
theorem class_val {d : Dn} {s ca cb cn co k : Int} (hs : signD d = s) (hca : cmpD d ⟨false, 355, 1⟩ = ca) (hcb : cmpD d ⟨true, 373, 1⟩ = cb) (hcn : cmpD d ⟨false, 1, -60⟩ = cn) (hco : cmpD d ⟨true, 1, -60⟩ = co) (hk : ofB s true ca cb cn co = k) :
    (k = 0) ∨ (k = 1 ∧ 710 ≤ qv d) ∨ (k = 2 ∧ qv d ≤ -746) ∨ (k = 3 ∧ 0 < qv d ∧ qv d < pw (-60)) ∨ (k = 4 ∧ qv d < 0 ∧ -pw (-60) < qv d) := by
  have e1 : qv ⟨false, 355, 1⟩ = 710 := by rw [qv_pos, pw_one]; decide +kernel
  have e2 : qv ⟨true, 373, 1⟩ = -746 := by rw [qv_neg, pw_one]; decide +kernel
  have e3 : qv ⟨false, 1, -60⟩ = pw (-60) := by rw [qv_pos]; exact Rat.one_mul _
  have e4 : qv ⟨true, 1, -60⟩ = -pw (-60) := by
    rw [qv_neg]
    have : ((1 : Nat) : Rat) * pw (-60) = pw (-60) := Rat.one_mul _
    rw [this]
  have c1 := cmpD_val d ⟨false, 355, 1⟩
  have c2 := cmpD_val d ⟨true, 373, 1⟩
  have c3 := cmpD_val d ⟨false, 1, -60⟩
  have c4 := cmpD_val d ⟨true, 1, -60⟩
  have c5 := signD_val d
  rw [hca, e1] at c1
  rw [hcb, e2] at c2
  rw [hcn, e3] at c3
  rw [hco, e4] at c4
  rw [hs] at c5
  unfold ofB at hk
  split at hk
  · exact .inl hk.symm
  split at hk
  · refine .inr (.inl ⟨hk.symm, ?_⟩)
    rename_i h
    rcases c1 with ⟨_, c⟩ | ⟨c, _⟩ | ⟨c, _⟩
    · omega
    · grind
    · grind
  split at hk
  · refine .inr (.inr (.inl ⟨hk.symm, ?_⟩))
    rename_i h
    rcases c2 with ⟨c, _⟩ | ⟨c, _⟩ | ⟨_, c⟩
    · grind
    · grind
    · omega
  split at hk
  · refine .inr (.inr (.inr (.inl ⟨hk.symm, ?_⟩)))
    rename_i h
    constructor
    · rcases c5 with ⟨_, c⟩ | ⟨_, c⟩ | ⟨c, _⟩
      · omega
      · omega
      · exact c
    · rcases c3 with ⟨c, _⟩ | ⟨_, c⟩ | ⟨_, c⟩
      · exact c
      · omega
      · omega
  split at hk
  · refine .inr (.inr (.inr (.inr ⟨hk.symm, ?_⟩)))
    rename_i h
    constructor
    · rcases c5 with ⟨c, _⟩ | ⟨_, c⟩ | ⟨_, c⟩
      · exact c
      · omega
      · omega
    · rcases c4 with ⟨_, c⟩ | ⟨_, c⟩ | ⟨c, _⟩
      · omega
      · omega
      · exact c
  · exact .inl hk.symm

/-- May be rounded, and comes to these bits. -/
def SoOk (neg more : Bool) (M : Nat) (e dir : Int) (b : Nat) (f : Int) : Prop := M % 2 = 1 ∧ bitN M ≤ 50000 ∧ -1000000000 ≤ e ∧ e ≤ 1001000000 ∧ toB neg M e more dir = (b, f)

theorem pos_dn {n : Bool} {m : Nat} {e : Int} (h : 0 < qv ⟨n, m, e⟩) : n = false ∧ m ≠ 0 ∧ qv ⟨n, m, e⟩ = (m : Rat) * pw e := by
  have hp : 0 ≤ (m : Rat) * pw e := Rat.mul_nonneg (rq_nat_nonneg m) (Rat.le_of_lt (pw_pos e))
  cases n
  · refine ⟨rfl, ?_, rfl⟩
    intro h0
    rw [qv_zero h0] at h
    exact absurd h (by decide)
  · rw [qv_neg] at h
    exfalso; grind
def one256 : Nat := 115792089237316195423570985008687907853269984665640564039457584007913129639937
def les256 : Nat := 115792089237316195423570985008687907853269984665640564039457584007913129639935
theorem val_256 : (one256 : Rat) * pw (-256) = 1 + pw (-256) ∧ (les256 : Rat) * pw (-256) = 1 - pw (-256) ∧ 0 < pw (-256) ∧ pw (-256) < pw (-54) := by
  have hp := pw_pos (-256)
  have e : pw (-256) * pw 256 = 1 := by rw [← pw_add]; rfl
  have e2 : pw 256 = (115792089237316195423570985008687907853269984665640564039457584007913129639936 : Rat) := by
    have h1 : pw 256 = pw 128 * pw 128 := by rw [← pw_add]; rfl
    have h2 : pw 128 = pw 64 * pw 64 := by rw [← pw_add]; rfl
    have h3 : pw 64 = ((18446744073709551616 : Nat) : Rat) := pw_nat 64
    rw [h1, h2, h3]; decide +kernel
  rw [e2] at e
  have a1 : (one256 : Rat) = 115792089237316195423570985008687907853269984665640564039457584007913129639936 + 1 := by unfold one256; decide +kernel
  have a2 : (les256 : Rat) = 115792089237316195423570985008687907853269984665640564039457584007913129639936 - 1 := by unfold les256; decide +kernel
  refine ⟨by rw [a1]; grind, by rw [a2]; grind, hp, ?_⟩
  have e3 : pw (-256) * pw 202 = pw (-54) := by rw [← pw_add]; rfl
  have e4 : 1 < pw 202 := by
    have := pw_mono (show (1 : Int) ≤ 202 by decide)
    rw [pw_one] at this; grind
  have := Rat.mul_lt_mul_of_pos_left e4 hp
  grind
theorem so_law {d : Dn} {p1 p2 neg : Bool} {k1 k2 b : Nat} {f1 f2 kk s ca cb cn co k dir f : Int} (o : ExpV d ⟨p1, k1, f1⟩ ⟨p2, k2, f2⟩ 200 kk) (v1 : -1024 < qv d) (v2 : qv d < 1024) (hs : signD d = s) (hca : cmpD d ⟨false, 355, 1⟩ = ca) (hcb : cmpD d ⟨true, 373, 1⟩ = cb) (hcn : cmpD d ⟨false, 1, -60⟩ = cn) (hco : cmpD d ⟨true, 1, -60⟩ = co) (hk : ofB s true ca cb cn co = k) (hk0 : k ≠ 0)
    (d0 : 0 ≤ dir) (d3 : dir ≤ 3) (hr : resB k neg dir = (b, f, true)) :
    (p1 = false ∧ p2 = false) ∧ (0 < s → (1 < qv ⟨p1, k1, f1⟩ → SoOk neg true k1 f1 dir b f) ∧ (qv ⟨p1, k1, f1⟩ ≤ 1 → SoOk neg true one256 (-256) dir b f) ∧ SoOk neg false k2 f2 dir b f) ∧
    (s < 0 → SoOk neg true k1 f1 dir b f ∧ (qv ⟨p2, k2, f2⟩ < 1 → SoOk neg false k2 f2 dir b f) ∧ (1 ≤ qv ⟨p2, k2, f2⟩ → SoOk neg false les256 (-256) dir b f)) := by
  obtain ⟨n1, n2, n3⟩ := so_near o v1 v2
  obtain ⟨rfl, m1, q1⟩ := pos_dn n1
  obtain ⟨rfl, m2, q2⟩ := pos_dn (show 0 < qv ⟨p2, k2, f2⟩ by grind)
  obtain ⟨x1, x2, x3, x4⟩ := val_256
  have z1 := o.z1
  have z2 := o.z2
  dsimp only at z1 z2
  have o1 := bareD_oddM o.b1 m1
  have o2 := bareD_oddM o.b2 m2
  have y1 : one256 % 2 = 1 := by unfold one256; decide
  have y2 : les256 % 2 = 1 := by unfold les256; decide
  have y3 : bitN one256 ≤ 50000 := Nat.le_trans (bitN_le.2 (show one256 < 2 ^ 257 by unfold one256; decide +kernel)) (by decide)
  have y4 : bitN les256 ≤ 50000 := Nat.le_trans (bitN_le.2 (show les256 < 2 ^ 257 by unfold les256; decide +kernel)) (by decide)
  have p54 : pw (-54) ≤ pw (-53) := pw_mono (by decide)
  have A1 : toB neg k1 f1 true dir = (b, f) → SoOk neg true k1 f1 dir b f := fun h => ⟨o1, by omega, by omega, by omega, h⟩
  have A2 : toB neg k2 f2 false dir = (b, f) → SoOk neg false k2 f2 dir b f := fun h => ⟨o2, by omega, by omega, by omega, h⟩
  have A3 : toB neg one256 (-256) true dir = (b, f) → SoOk neg true one256 (-256) dir b f := fun h => ⟨y1, y3, by decide, by decide, h⟩
  have A4 : toB neg les256 (-256) false dir = (b, f) → SoOk neg false les256 (-256) dir b f := fun h => ⟨y2, y4, by decide, by decide, h⟩
  have hdir : ¬ (dir < 0 ∨ 3 < dir) := by omega
  have c5 := signD_val d
  rw [hs] at c5
  unfold resB at hr
  rw [if_neg hdir] at hr
  refine ⟨⟨rfl, rfl⟩, ?_⟩
  rcases class_val hs hca hcb hcn hco hk with h | ⟨rfl, h⟩ | ⟨rfl, h⟩ | ⟨rfl, h, h'⟩ | ⟨rfl, h, h'⟩
  · exact absurd h hk0
  · have g := so_over o v1 v2 h
    rw [if_pos rfl] at hr
    have e : (overB neg dir, (5 : Int)) = (b, f) := by injection hr with e1 e2; injection e2 with e2 e3; rw [e1, e2]
    rw [← e] at A1 A2 A3
    have g2 : pw 1024 ≤ (k2 : Rat) * pw f2 := by rw [← q2]; grind
    have g1 : 1 < pw 1024 := by have := pw_mono (show (1 : Int) ≤ 1024 by decide); rw [pw_one] at this; grind
    rw [q1] at g
    refine ⟨fun _ => ⟨fun _ => A1 (round_over g), fun c => ?_, A2 (round_over g2)⟩, fun c => ?_⟩
    · exfalso; rw [q1] at c; grind
    · exfalso
      rcases c5 with ⟨c6, _⟩ | ⟨_, c6⟩ | ⟨_, c6⟩
      · grind
      · omega
      · omega
  · have g := so_under o v1 v2 h
    rw [if_neg (by decide), if_pos rfl] at hr
    have e : (underB neg dir, (3 : Int)) = (b, f) := by injection hr with e1 e2; injection e2 with e2 e3; rw [e1, e2]
    rw [← e] at A1 A2 A4
    have g1 : pw (-1075) < 1 := by have := pw_mono (show (-1075 : Int) ≤ -1 by decide); have h1 := pw_neg 1; rw [pw_one] at h1; grind
    refine ⟨fun c => ?_, fun _ => ⟨A1 (round_under m1 (by rw [← q1]; grind)), fun _ => A2 (round_under m2 (by rw [← q2]; exact g)), fun c => ?_⟩⟩
    · exfalso
      rcases c5 with ⟨_, c6⟩ | ⟨_, c6⟩ | ⟨c6, _⟩
      · omega
      · omega
      · grind
    · exfalso; grind
  · obtain ⟨g1, g2, g3⟩ := so_more o v1 v2 h h'
    rw [if_neg (by decide), if_neg (by decide), if_pos rfl] at hr
    have e : (signedB (moreB dir neg) neg, (1 : Int)) = (b, f) := by injection hr with e1 e2; injection e2 with e2 e3; rw [e1, e2]
    rw [← e] at A1 A2 A3
    refine ⟨fun _ => ⟨fun c => A1 (round_above (by rw [← q1]; exact c) (by rw [← q1]; exact g3)), fun c => A3 (round_above (by rw [x1]; grind) (by rw [x1]; grind)), A2 (round_above (by rw [← q2]; exact g1) (by rw [← q2]; exact g2))⟩, fun c => ?_⟩
    exfalso
    rcases c5 with ⟨c6, _⟩ | ⟨_, c6⟩ | ⟨_, c6⟩
    · grind
    · omega
    · omega
  · obtain ⟨g1, g2, g3⟩ := so_less o v1 v2 h h'
    rw [if_neg (by decide), if_neg (by decide), if_neg (by decide), if_pos rfl] at hr
    have e : (signedB (lessB dir neg) neg, (1 : Int)) = (b, f) := by injection hr with e1 e2; injection e2 with e2 e3; rw [e1, e2]
    rw [← e] at A1 A2 A4
    refine ⟨fun c => ?_, fun _ => ⟨A1 (round_below (by rw [← q1]; exact g2) (by rw [← q1]; exact g1)), fun c => A2 (round_below (by rw [← q2]; exact g3) (by rw [← q2]; exact c)), fun c => A4 (round_below (by rw [x2]; grind) (by rw [x2]; grind))⟩⟩
    exfalso
    rcases c5 with ⟨_, c6⟩ | ⟨_, c6⟩ | ⟨c6, _⟩
    · omega
    · omega
    · grind
end Go.Proofs.YtflkemcoomgoiaaDoor
