/- QuoSteps returns true and leaves what was there: the walk. Conditions: math/bits' table stands in its variable. -/
import Derived.Test.YtmocoipenaodaaaDoorLaw3
import Derived.Test.YtmocoipenaodaaaDoorNumB
namespace Go.Proofs.YtmocoipenaodaaaDoor.PSteps
open Go.RowKit Go.Proofs.YtmocoipenaodaaaDoor

theorem rd_n0 {W : World} {b n : Nat} {E : TypeId} {fz : Nat × Nat} (h : W.heap[b]? = some (.cells #[.int .u64 (n : Int), .int .u64 0] E fz)) : RdN W (.slice (some ⟨b, 0, none⟩) 2 2) [n, 0] := rd_arr h trivial rfl (by decide)
theorem cmpN_ge {a b : Nat} (h : b ≤ a) : 0 ≤ cmpN a b := by unfold cmpN; rw [if_neg (by omega)]; split <;> decide
theorem cmpN_le {a b : Nat} (h : a ≤ b) : cmpN a b ≤ 0 := by
  rcases Nat.lt_or_eq_of_le h with h | rfl
  · rw [cmpN_lt h]; decide
  · rw [cmpN_eq]; exact Int.le_refl _

set_option maxRecDepth 100000 in
set_option maxHeartbeats 1000000 in
theorem walk (a0 : Option Addr) (len0 cap0 : Nat) (z0 : List Int) (a1 : Option Addr) (len1 cap1 : Nat) (z1 : List Int) (a2 : Int) (w : World) (w0 : IsRow .u64 w a0 len0 cap0 z0) (w1 : IsRow .u64 w a1 len1 cap1 z1) (w2 : (Lit.int .u64 a2).wf = true) (hT : Tab w) :
    Calls Tryd.prog 4 #[.slice a0 len0 cap0, .slice a1 len1 cap1, .int .u64 a2] w fun e w' => e = .returned (.bool true) ∧ Below w.heap.size w w' := by
  obtain ⟨l, hl, dl, RL, hl64⟩ := w0.nums
  obtain ⟨m, hm, dm, RM, hm64⟩ := w1.nums
  obtain ⟨n, rfl, hn⟩ := u64_nat w2
  clear w0 w1 w2
  have h1B : 1 < BB := by decide
  by_cases hbig : 40 < len0 ∨ 40 < len1 ∨ n = 0
  · clear RL RM dl dm hl hm
    by_cases hb0 : 40 < len0
    · go_enter Tryd.func4, Tryd.ntmps4
      go_wp2_with (go_at_call 7; (with_reducible refine (alive3_any hT).mono ?_); rintro e wa ⟨rfl, hba⟩)
      go_ret
      exact ⟨rfl, hba⟩
    · by_cases hb1 : 40 < len1
      · go_enter Tryd.func4, Tryd.ntmps4
        go_wp2_with (go_at_call 7; (with_reducible refine (alive3_any hT).mono ?_); rintro e wa ⟨rfl, hba⟩)
        go_ret
        exact ⟨rfl, hba⟩
      · obtain rfl : n = 0 := by omega
        go_enter Tryd.func4, Tryd.ntmps4
        go_wp2_with (go_at_call 7; (with_reducible refine (alive3_any hT).mono ?_); rintro e wa ⟨rfl, hba⟩)
        go_ret
        exact ⟨rfl, hba⟩
  · have dec0 : decide (40 < (len0 : Int)) = false := decide_eq_false (by omega)
    have dec1 : decide (40 < (len1 : Int)) = false := decide_eq_false (by omega)
    have hn0 : n ≠ 0 := by omega
    have hni : (n : Int) ≠ 0 := by omega
    have HT := hT
    clear hT
    have bA := val_bits dl (show l.length ≤ 40 by omega)
    have bB := val_bits dm (show m.length ≤ 40 by omega)
    have RA := RL.numl dl (by omega)
    have RB := RM.numl dm (by omega)
    clear dl dm RL RM hbig
    generalize val BB l = A at *
    generalize val BB m = B at *
    by_cases hB : B = 0
    · subst hB
      go_enter Tryd.func4, Tryd.ntmps4
      go_wp2_with
      (first
        | (go_at_call 7; (with_reducible refine (alive3_any HT).mono ?_); rintro e w1 ⟨rfl, hb1⟩; have B1 := hb1; have b1 := RB.below hb1; have T1 := HT.below hb1; clear RB HT)
        | (go_at_call 17; (with_reducible refine (bits_z b1).mono ?_); rintro e w2 ⟨rfl, hb2⟩; have B2 := B1.trans (hb2.mono B1.size); have b2 := b1.below hb2; have T2 := T1.below hb2; clear b1 T1)
        | fail)
      go_ret
      exact ⟨rfl, by assumption⟩
    · have hB0 := Nat.pos_of_ne_zero hB
      have hb0 : bitN B ≠ 0 := fun h => hB (eq_zero_of_bitN h)
      generalize hbb : bitN B = bb at hb0
      have eB := Lib.hid hbb
      have hbi : (bb : Int) ≠ 0 := by omega
      have q1 := bitN_mono (Nat.div_le_self A B)
      have q2 := bitN_mono (Nat.div_le_self A n)
      have q3 := bitN_mono (Nat.mod_le A n)
      have hr : A % n < BB := Nat.lt_trans (Nat.mod_lt A (Nat.pos_of_ne_zero hn0)) hn
      have q4 := bitN_add_le A B
      have q5 := bitN_add_le (A / B) 1
      have q6 : bitN 1 = 1 := by decide
      have hY : (A + B) / B = A / B + 1 := Nat.add_div_right A hB0
      have hdm := Nat.div_add_mod A B
      have hml := Nat.mod_lt A hB0
      obtain ⟨U, hU, u1, u2, u3⟩ : ∃ U, A / B + (if A % B = 0 then 0 else 1) = U ∧ A ≤ U * B ∧ A / B ≤ U ∧ U ≤ A / B + 1 := by
        refine ⟨_, rfl, ?_, by omega, by split <;> omega⟩
        rw [Nat.add_mul, Nat.mul_comm (A / B) B]
        split <;> omega
      have q7 := bitN_mono u3
      have q8 := bitN_mul_le U B
      have hYn : A / B ≤ A / B + 1 := by omega
      obtain ⟨c1, e1, i1⟩ : ∃ c : Int, cmpN (U * B) A = c ∧ 0 ≤ c := ⟨_, rfl, cmpN_ge (by assumption)⟩
      obtain ⟨c2, e2, i2⟩ : ∃ c : Int, cmpN U (A / B) = c ∧ 0 ≤ c := ⟨_, rfl, cmpN_ge (by assumption)⟩
      obtain ⟨c3, e3, i3⟩ : ∃ c : Int, cmpN U (A / B + 1) = c ∧ c ≤ 0 := ⟨_, rfl, cmpN_le (by assumption)⟩
      have i1' : decide (0 ≤ c1) = true := decide_eq_true i1
      have i2' : decide (0 ≤ c2) = true := decide_eq_true i2
      have i3' : decide (c3 ≤ 0) = true := decide_eq_true i3
      generalize hM : U * B = M at *
      generalize hX : A / B = X at *
      generalize hYY : X + 1 = Y at *
      generalize hS : A + B = S at *
      generalize hP : A / n = P at *
      generalize hR : A % n = R at *
      have eU := Lib.hid (show A / B + (if A % B = 0 then 0 else 1) = U by rw [hX]; exact hU); have eM := Lib.hid hM; have eX := Lib.hid hX; have eY := Lib.hid hY; have eYY := Lib.hid hYY
      have eS := Lib.hid hS; have eP := Lib.hid hP; have eR := Lib.hid hR; have f1 := Lib.hid e1; have f2 := Lib.hid e2; have f3 := Lib.hid e3
      have sA : bitN A ≤ 2560000 := by omega
      have sP : bitN P ≤ 2560000 := by omega
      have sR : bitN R ≤ 2560000 := by omega
      have sX : bitN X ≤ 2560000 := by omega
      have sY : bitN Y ≤ 2560000 := by omega
      have sS : bitN S ≤ 2560000 := by omega
      have sU : bitN U ≤ 2560000 := by omega
      have sUB : bitN U + bitN B ≤ 65536 := by omega
      have sM : bitN M ≤ 2560000 := by omega
      clear hU hM hX hY hYY hS hP hR e1 e2 e3 q1 q2 q3 q4 q5 q6 q7 q8 bA bB hdm hml u1 u2 u3 hYn
      go_enter Tryd.func4, Tryd.ntmps4
      go_wp2_with
      (first
        | (go_at_call 7; (with_reducible refine (alive3_any HT).mono ?_); rintro e w1 ⟨rfl, hb1⟩; have B1 := hb1; have a1 := RA.below hb1; have b1 := RB.below hb1; have T1 := HT.below hb1; clear RA RB HT)
        | (go_at_call 17; (with_reducible refine (bits_n b1 eB.out).mono ?_); rintro e w2 ⟨rfl, hb2⟩; have B2 := B1.trans (hb2.mono B1.size); have a2 := a1.below hb2; have b2 := b1.below hb2; have T2 := T1.below hb2; clear a1 b1 T1)
        | (go_at_call 15; (with_reducible refine (small_n a2 hn hn0 eP.out eR.out).mono ?_); rintro e w3 ⟨vp3, rfl, p3, hb3⟩; have B3 := B2.trans (hb3.mono B2.size); have a3 := a2.below hb3; have b3 := b2.below hb3; have T3 := T2.below hb3; clear a2 b2 T2)
        | (go_at_call 9; (with_reducible refine (div_n (a3.below (below_alloc _ _)) (RdN.num20 ?_ hn) (T3.below (below_alloc _ _)) hn0 eP.out eR.out).mono ?_); (exact rd_n0 (heap_alloc_new _ _)); rintro e w4 ⟨vq4, vs4, rfl, q4, s4, hb4⟩; have hb4' := (below_a hb4); have B4 := B3.trans (hb4'.mono B3.size); have a4 := a3.below hb4'; have b4 := b3.below hb4'; have T4 := T3.below hb4'; have p4 := p3.below hb4'; clear a3 b3 T3 p3)
        | (go_at_call 18; (with_reducible refine (cmp_n (p4.num sP) (q4.num sP) (cmpN_eq _)).mono ?_); rintro e w5 ⟨rfl, hb5⟩; have B5 := B4.trans (hb5.mono B4.size); have a5 := a4.below hb5; have b5 := b4.below hb5; have T5 := T4.below hb5; have p5 := p4.below hb5; have q5 := q4.below hb5; have s5 := s4.below hb5; clear a4 b4 T4 p4 q4 s4)
        | (go_at_call 16; (with_reducible refine (of_num hr).mono ?_); rintro e w6 ⟨vo6, rfl, o6, hb6⟩; have B6 := B5.trans (hb6.mono B5.size); have a6 := a5.below hb6; have b6 := b5.below hb6; have T6 := T5.below hb6; have p6 := p5.below hb6; have q6 := q5.below hb6; have s6 := s5.below hb6; clear a5 b5 T5 p5 q5 s5)
        | (go_at_call 18; (with_reducible refine (cmp_n (o6.num sR) (s6.num sR) (cmpN_eq _)).mono ?_); rintro e w7 ⟨rfl, hb7⟩; have B7 := B6.trans (hb7.mono B6.size); have a7 := a6.below hb7; have b7 := b6.below hb7; have T7 := T6.below hb7; have p7 := p6.below hb7; have q7 := q6.below hb7; have s7 := s6.below hb7; have o7 := o6.below hb7; clear a6 b6 T6 p6 q6 s6 o6)
        | (go_at_call 9; (with_reducible refine (div_n a7 b7 T7 hB eX.out rfl).mono ?_); rintro e w8 ⟨vx8, vxr8, rfl, x8, xr8, hb8⟩; have B8 := B7.trans (hb8.mono B7.size); have a8 := a7.below hb8; have b8 := b7.below hb8; have T8 := T7.below hb8; have p8 := p7.below hb8; have q8 := q7.below hb8; have s8 := s7.below hb8; have o8 := o7.below hb8; clear a7 b7 T7 p7 q7 s7 o7)
        | (go_at_call 19; (with_reducible refine (add_n a8 b8 eS.out).mono ?_); rintro e w9 ⟨vd9, rfl, d9, hb9⟩; have B9 := B8.trans (hb9.mono B8.size); have a9 := a8.below hb9; have b9 := b8.below hb9; have T9 := T8.below hb9; have p9 := p8.below hb9; have q9 := q8.below hb9; have s9 := s8.below hb9; have o9 := o8.below hb9; have x9 := x8.below hb9; have xr9 := xr8.below hb9; clear a8 b8 T8 p8 q8 s8 o8 x8 xr8)
        | (go_at_call 9; (with_reducible refine (div_n (d9.num sS) b9 T9 hB eY.out rfl).mono ?_); rintro e w10 ⟨vy10, vyr10, rfl, y10, yr10, hb10⟩; have B10 := B9.trans (hb10.mono B9.size); have a10 := a9.below hb10; have b10 := b9.below hb10; have T10 := T9.below hb10; have p10 := p9.below hb10; have q10 := q9.below hb10; have s10 := s9.below hb10; have o10 := o9.below hb10; have x10 := x9.below hb10; have xr10 := xr9.below hb10; have d10 := d9.below hb10; clear a9 b9 T9 p9 q9 s9 o9 x9 xr9 d9)
        | (go_at_call 10; (with_reducible refine (up_n a10 b10 T10 hB eU.out).mono ?_); rintro e w11 ⟨vu11, rfl, u11, hb11⟩; have B11 := B10.trans (hb11.mono B10.size); have a11 := a10.below hb11; have b11 := b10.below hb11; have T11 := T10.below hb11; have p11 := p10.below hb11; have q11 := q10.below hb11; have s11 := s10.below hb11; have o11 := o10.below hb11; have x11 := x10.below hb11; have xr11 := xr10.below hb11; have d11 := d10.below hb11; have y11 := y10.below hb11; have yr11 := yr10.below hb11; clear a10 b10 T10 p10 q10 s10 o10 x10 xr10 d10 y10 yr10)
        | (go_at_call 20; (with_reducible refine (mul_n (u11.num sU) b11 eM.out sUB).mono ?_); rintro e w12 ⟨vm12, rfl, m12, hb12⟩; have B12 := B11.trans (hb12.mono B11.size); have a12 := a11.below hb12; have b12 := b11.below hb12; have T12 := T11.below hb12; have p12 := p11.below hb12; have q12 := q11.below hb12; have s12 := s11.below hb12; have o12 := o11.below hb12; have x12 := x11.below hb12; have xr12 := xr11.below hb12; have d12 := d11.below hb12; have y12 := y11.below hb12; have yr12 := yr11.below hb12; have u12 := u11.below hb12; clear a11 b11 T11 p11 q11 s11 o11 x11 xr11 d11 y11 yr11 u11)
        | (go_at_call 19; (with_reducible refine (add_n ((x12.below (below_alloc _ _)).num sX) (RdN.num1 ?_ h1B) eYY.out).mono ?_); (exact rd_one (heap_alloc_new _ _) trivial); rintro e w13 ⟨vz13, rfl, z13, hb13⟩; have hb13' := (below_a hb13); have B13 := B12.trans (hb13'.mono B12.size); have a13 := a12.below hb13'; have b13 := b12.below hb13'; have T13 := T12.below hb13'; have p13 := p12.below hb13'; have q13 := q12.below hb13'; have s13 := s12.below hb13'; have o13 := o12.below hb13'; have x13 := x12.below hb13'; have xr13 := xr12.below hb13'; have d13 := d12.below hb13'; have y13 := y12.below hb13'; have yr13 := yr12.below hb13'; have u13 := u12.below hb13'; have m13 := m12.below hb13'; clear a12 b12 T12 p12 q12 s12 o12 x12 xr12 d12 y12 yr12 u12 m12)
        | (go_at_call 18; (with_reducible refine (cmp_n (y13.num sY) (z13.num sY) (cmpN_eq _)).mono ?_); rintro e w14 ⟨rfl, hb14⟩; have B14 := B13.trans (hb14.mono B13.size); have a14 := a13.below hb14; have b14 := b13.below hb14; have T14 := T13.below hb14; have p14 := p13.below hb14; have q14 := q13.below hb14; have s14 := s13.below hb14; have o14 := o13.below hb14; have x14 := x13.below hb14; have xr14 := xr13.below hb14; have d14 := d13.below hb14; have y14 := y13.below hb14; have yr14 := yr13.below hb14; have u14 := u13.below hb14; have m14 := m13.below hb14; have z14 := z13.below hb14; clear a13 b13 T13 p13 q13 s13 o13 x13 xr13 d13 y13 yr13 u13 m13 z13)
        | (go_at_call 18; (with_reducible refine (cmp_n (m14.num sM) a14 f1.out).mono ?_); rintro e w15 ⟨rfl, hb15⟩; have B15 := B14.trans (hb15.mono B14.size); have a15 := a14.below hb15; have b15 := b14.below hb15; have T15 := T14.below hb15; have p15 := p14.below hb15; have q15 := q14.below hb15; have s15 := s14.below hb15; have o15 := o14.below hb15; have x15 := x14.below hb15; have xr15 := xr14.below hb15; have d15 := d14.below hb15; have y15 := y14.below hb15; have yr15 := yr14.below hb15; have u15 := u14.below hb15; have m15 := m14.below hb15; have z15 := z14.below hb15; clear a14 b14 T14 p14 q14 s14 o14 x14 xr14 d14 y14 yr14 u14 m14 z14)
        | (go_at_call 18; (with_reducible refine (cmp_n (u15.num sU) (x15.num sX) f2.out).mono ?_); rintro e w16 ⟨rfl, hb16⟩; have B16 := B15.trans (hb16.mono B15.size); have a16 := a15.below hb16; have b16 := b15.below hb16; have T16 := T15.below hb16; have p16 := p15.below hb16; have q16 := q15.below hb16; have s16 := s15.below hb16; have o16 := o15.below hb16; have x16 := x15.below hb16; have xr16 := xr15.below hb16; have d16 := d15.below hb16; have y16 := y15.below hb16; have yr16 := yr15.below hb16; have u16 := u15.below hb16; have m16 := m15.below hb16; have z16 := z15.below hb16; clear a15 b15 T15 p15 q15 s15 o15 x15 xr15 d15 y15 yr15 u15 m15 z15)
        | (go_at_call 18; (with_reducible refine (cmp_n (u16.num sU) (y16.num sY) f3.out).mono ?_); rintro e w17 ⟨rfl, hb17⟩; have B17 := B16.trans (hb17.mono B16.size); have a17 := a16.below hb17; have b17 := b16.below hb17; have T17 := T16.below hb17; have p17 := p16.below hb17; have q17 := q16.below hb17; have s17 := s16.below hb17; have o17 := o16.below hb17; have x17 := x16.below hb17; have xr17 := xr16.below hb17; have d17 := d16.below hb17; have y17 := y16.below hb17; have yr17 := yr16.below hb17; have u17 := u16.below hb17; have m17 := m16.below hb17; have z17 := z16.below hb17; clear a16 b16 T16 p16 q16 s16 o16 x16 xr16 d16 y16 yr16 u16 m16 z16)
        | fail)
      all_goals
        go_ret
        exact ⟨rfl, by assumption⟩
end Go.Proofs.YtmocoipenaodaaaDoor.PSteps
