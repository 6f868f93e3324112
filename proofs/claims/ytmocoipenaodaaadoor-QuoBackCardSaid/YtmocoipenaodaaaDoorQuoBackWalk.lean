/- QuoBack returns true and leaves what was there: the walk. Conditions: math/bits' table stands in its variable. -/
import Derived.Test.YtmocoipenaodaaaDoorLaw3
import Derived.Test.YtmocoipenaodaaaDoorNumB
namespace Go.Proofs.YtmocoipenaodaaaDoor.PBack
open Go.RowKit Go.Proofs.YtmocoipenaodaaaDoor


set_option maxRecDepth 100000 in
set_option maxHeartbeats 1000000 in
theorem walk (a0 : Option Addr) (len0 cap0 : Nat) (z0 : List Int) (a1 : Option Addr) (len1 cap1 : Nat) (z1 : List Int) (a2 : Option Addr) (len2 cap2 : Nat) (z2 : List Int) (w : World) (w0 : IsRow .u64 w a0 len0 cap0 z0) (w1 : IsRow .u64 w a1 len1 cap1 z1) (w2 : IsRow .u64 w a2 len2 cap2 z2) (hT : Tab w) :
    Calls Tryd.prog 6 #[.slice a0 len0 cap0, .slice a1 len1 cap1, .slice a2 len2 cap2] w fun e w' => e = .returned (.bool true) ∧ Below w.heap.size w w' := by
  obtain ⟨l, hl, dl, RL, hl64⟩ := w0.nums
  obtain ⟨m, hm, dm, RM, hm64⟩ := w1.nums
  obtain ⟨c, hc, dc, RC, hc64⟩ := w2.nums
  clear w0 w1 w2
  have h1B : 1 < BB := by decide
  by_cases hbig : 60 < len0 ∨ 60 < len1 ∨ 60 < len2
  · clear RL RM RC dl dm dc hl hm hc
    by_cases hb0 : 60 < len0
    · go_enter Tryd.func6, Tryd.ntmps6
      go_wp2_with (go_at_call 7; (with_reducible refine (alive3_any hT).mono ?_); rintro e wa ⟨rfl, hba⟩)
      go_ret
      exact ⟨rfl, hba⟩
    · by_cases hb1 : 60 < len1
      all_goals
        go_enter Tryd.func6, Tryd.ntmps6
        go_wp2_with (go_at_call 7; (with_reducible refine (alive3_any hT).mono ?_); rintro e wa ⟨rfl, hba⟩)
        go_ret
        exact ⟨rfl, hba⟩
  · have dec0 : decide (60 < (len0 : Int)) = false := decide_eq_false (by omega)
    have dec1 : decide (60 < (len1 : Int)) = false := decide_eq_false (by omega)
    have dec2 : decide (60 < (len2 : Int)) = false := decide_eq_false (by omega)
    have HT := hT
    clear hT
    have bA := val_bits dl (show l.length ≤ 60 by omega)
    have bB := val_bits dm (show m.length ≤ 60 by omega)
    have bC := val_bits dc (show c.length ≤ 60 by omega)
    have RA := RL.numl dl (by omega)
    have RB := RM.numl dm (by omega)
    have RC := RC.numl dc (by omega)
    clear dl dm dc RL RM hbig
    generalize val BB l = A at *
    generalize val BB m = B at *
    generalize val BB c = C at *
    by_cases hB : B = 0
    · subst hB
      go_enter Tryd.func6, Tryd.ntmps6
      go_wp2_with
      (first
        | (go_at_call 7; (with_reducible refine (alive3_any HT).mono ?_); rintro e w1 ⟨rfl, hb1⟩; have B1 := hb1; have b1 := RB.below hb1; have T1 := HT.below hb1; clear RB HT)
        | (go_at_call 17; (with_reducible refine (bits_z b1).mono ?_); rintro e w2 ⟨rfl, hb2⟩; have B2 := B1.trans (hb2.mono B1.size); have b2 := b1.below hb2; have T2 := T1.below hb2; clear b1 T1)
        | fail)
      go_ret
      exact ⟨rfl, by assumption⟩
    · have hB0 := Nat.pos_of_ne_zero hB
      have hb0 : bitN B ≠ 0 := fun h => hB (eq_zero_of_bitN h)
      generalize hbb : bitN B = bb at hb0
      have eB := Lib.hid hbb
      have hbi : (bb : Int) ≠ 0 := by omega
      have q1 := bitN_mono (Nat.div_le_self A B)
      have q2 := bitN_mono (Nat.le_of_lt (Nat.mod_lt A hB0))
      have q3 := bitN_mul_le (A / B) B
      have q4 := bitN_mul_le B C
      have hRB : A % B < B := Nat.mod_lt A hB0
      have hdm := Nat.div_add_mod A B
      rw [Nat.mul_comm] at hdm
      generalize hQ : A / B = Q at *
      generalize hR : A % B = R at *
      generalize hM : Q * B = M at *
      have eQ := Lib.hid hQ; have eR := Lib.hid hR; have eM := Lib.hid hM; have eA := Lib.hid hdm
      clear hQ hR hM hdm hbb
      have sQ : bitN Q ≤ 2560000 := by omega
      have sR : bitN R ≤ 2560000 := by omega
      have sM : bitN M ≤ 2560000 := by omega
      have sA : bitN A ≤ 2560000 := by omega
      have sB : bitN B ≤ 2560000 := by omega
      have sC : bitN C ≤ 2560000 := by omega
      have sQB : bitN Q + bitN B ≤ 65536 := by omega
      have sBC : bitN B + bitN C ≤ 65536 := by omega
      have sP : bitN (B * C) ≤ 2560000 := by omega
      by_cases hC : C = 0
      · subst hC
        have eP := Lib.hid (Nat.mul_zero B)
        have eP1 := Lib.hid (Nat.zero_div B)
        have eP2 := Lib.hid (Nat.zero_mod B)
        rw [Nat.mul_zero] at sP
        clear q1 q2 q3 q4 bA bB bC
        go_enter Tryd.func6, Tryd.ntmps6
        go_wp2_with
        (first
          | (go_at_call 7; (with_reducible refine (alive3_any HT).mono ?_); rintro e w1 ⟨rfl, hb1⟩; have B1 := hb1; have a1 := RA.below hb1; have b1 := RB.below hb1; have c1 := RC.below hb1; have T1 := HT.below hb1; clear RA RB RC HT)
          | (go_at_call 17; (with_reducible refine (bits_n b1 eB.out).mono ?_); rintro e w2 ⟨rfl, hb2⟩; have B2 := B1.trans (hb2.mono B1.size); have a2 := a1.below hb2; have b2 := b1.below hb2; have c2 := c1.below hb2; have T2 := T1.below hb2; clear a1 b1 c1 T1)
          | (go_at_call 9; (with_reducible refine (div_n a2 b2 T2 hB eQ.out eR.out).mono ?_); rintro e w3 ⟨vq3, vr3, rfl, q3, r3, hb3⟩; have B3 := B2.trans (hb3.mono B2.size); have a3 := a2.below hb3; have b3 := b2.below hb3; have c3 := c2.below hb3; have T3 := T2.below hb3; clear a2 b2 c2 T2)
          | (go_at_call 20; (with_reducible refine (mul_n (q3.num sQ) b3 eM.out sQB).mono ?_); rintro e w4 ⟨vm4, rfl, m4, hb4⟩; have B4 := B3.trans (hb4.mono B3.size); have a4 := a3.below hb4; have b4 := b3.below hb4; have c4 := c3.below hb4; have T4 := T3.below hb4; have q4 := q3.below hb4; have r4 := r3.below hb4; clear a3 b3 c3 T3 q3 r3)
          | (go_at_call 19; (with_reducible refine (add_n (m4.num sM) (r4.num sR) eA.out).mono ?_); rintro e w5 ⟨vs5, rfl, s5, hb5⟩; have B5 := B4.trans (hb5.mono B4.size); have a5 := a4.below hb5; have b5 := b4.below hb5; have c5 := c4.below hb5; have T5 := T4.below hb5; have q5 := q4.below hb5; have r5 := r4.below hb5; have m5 := m4.below hb5; clear a4 b4 c4 T4 q4 r4 m4)
          | (go_at_call 18; (with_reducible refine (cmp_n (s5.num sA) a5 (cmpN_eq _)).mono ?_); rintro e w6 ⟨rfl, hb6⟩; have B6 := B5.trans (hb6.mono B5.size); have a6 := a5.below hb6; have b6 := b5.below hb6; have c6 := c5.below hb6; have T6 := T5.below hb6; have q6 := q5.below hb6; have r6 := r5.below hb6; have m6 := m5.below hb6; have s6 := s5.below hb6; clear a5 b5 c5 T5 q5 r5 m5 s5)
          | (go_at_call 18; (with_reducible refine (cmp_n (r6.num sR) b6 (cmpN_lt hRB)).mono ?_); rintro e w7 ⟨rfl, hb7⟩; have B7 := B6.trans (hb7.mono B6.size); have a7 := a6.below hb7; have b7 := b6.below hb7; have c7 := c6.below hb7; have T7 := T6.below hb7; have q7 := q6.below hb7; have r7 := r6.below hb7; have m7 := m6.below hb7; have s7 := s6.below hb7; clear a6 b6 c6 T6 q6 r6 m6 s6)
          | (go_at_call 20; (with_reducible refine (mul_n b7 c7 eP.out sBC).mono ?_); rintro e w8 ⟨vp8, rfl, p8, hb8⟩; have B8 := B7.trans (hb8.mono B7.size); have a8 := a7.below hb8; have b8 := b7.below hb8; have c8 := c7.below hb8; have T8 := T7.below hb8; have q8 := q7.below hb8; have r8 := r7.below hb8; have m8 := m7.below hb8; have s8 := s7.below hb8; clear a7 b7 c7 T7 q7 r7 m7 s7)
          | (go_at_call 9; (with_reducible refine (div_n (p8.num sP) b8 T8 hB eP1.out eP2.out).mono ?_); rintro e w9 ⟨vx9, vt9, rfl, x9, t9, hb9⟩; have B9 := B8.trans (hb9.mono B8.size); have a9 := a8.below hb9; have b9 := b8.below hb9; have c9 := c8.below hb9; have T9 := T8.below hb9; have q9 := q8.below hb9; have r9 := r8.below hb9; have m9 := m8.below hb9; have s9 := s8.below hb9; have p9 := p8.below hb9; clear a8 b8 c8 T8 q8 r8 m8 s8 p8; obtain ⟨at9, kt9, rfl⟩ := t9.none)
          | (go_at_call 18; (with_reducible refine (cmp_n (x9.num sC) c9 (cmpN_eq _)).mono ?_); rintro e w10 ⟨rfl, hb10⟩; have B10 := B9.trans (hb10.mono B9.size); have a10 := a9.below hb10; have b10 := b9.below hb10; have c10 := c9.below hb10; have T10 := T9.below hb10; have q10 := q9.below hb10; have r10 := r9.below hb10; have m10 := m9.below hb10; have s10 := s9.below hb10; have p10 := p9.below hb10; have x10 := x9.below hb10; have t10 := t9.below hb10; clear a9 b9 c9 T9 q9 r9 m9 s9 p9 x9 t9)
          | (go_at_call 22; (with_reducible refine (sub_under ((p10.below (below_alloc _ _)).num sP) (RdN.num1 ?_ h1B) Nat.one_pos).mono ?_); (exact rd_one (heap_alloc_new _ _) trivial); rintro e w11 ⟨vy11, rfl, y11, hb11⟩; have hb11' := (below_a hb11); have B11 := B10.trans (hb11'.mono B10.size); have a11 := a10.below hb11'; have b11 := b10.below hb11'; have c11 := c10.below hb11'; have T11 := T10.below hb11'; have q11 := q10.below hb11'; have r11 := r10.below hb11'; have m11 := m10.below hb11'; have s11 := s10.below hb11'; have p11 := p10.below hb11'; have x11 := x10.below hb11'; have t11 := t10.below hb11'; clear a10 b10 c10 T10 q10 r10 m10 s10 p10 x10 t10)
          | (go_at_call 17; (with_reducible refine (bits_z (p11.num sP)).mono ?_); rintro e w12 ⟨rfl, hb12⟩; have B12 := B11.trans (hb12.mono B11.size); have a12 := a11.below hb12; have b12 := b11.below hb12; have c12 := c11.below hb12; have T12 := T11.below hb12; have q12 := q11.below hb12; have r12 := r11.below hb12; have m12 := m11.below hb12; have s12 := s11.below hb12; have p12 := p11.below hb12; have x12 := x11.below hb12; have t12 := t11.below hb12; have y12 := y11.below hb12; clear a11 b11 c11 T11 q11 r11 m11 s11 p11 x11 t11 y11)
          | fail)
        go_ret
        exact ⟨rfl, by assumption⟩
      · obtain ⟨C1, rfl⟩ : ∃ k, C = k + 1 := ⟨C - 1, by omega⟩
        obtain ⟨B1, hB1⟩ : ∃ k, k + 1 = B := ⟨B - 1, by omega⟩
        have hD : 1 + (B * C1 + B1) = B * (C1 + 1) := by rw [Nat.mul_add]; omega
        have eD1 := Lib.hid (show (B * C1 + B1) / B = C1 by rw [Nat.mul_add_div hB0, Nat.div_eq_of_lt (by omega), Nat.add_zero])
        have eD2 := Lib.hid (show (B * C1 + B1) % B = B1 by rw [Nat.mul_add_mod, Nat.mod_eq_of_lt (by omega)])
        have eP1 := Lib.hid (Nat.mul_div_cancel_left (C1 + 1) hB0)
        have eP2 := Lib.hid (Nat.mul_mod_right B (C1 + 1))
        have r1 := bitN_mono (show B1 ≤ B by omega)
        have r2 := bitN_mono (show C1 ≤ C1 + 1 by omega)
        have r3 := bitN_mono (show B * C1 + B1 ≤ B * (C1 + 1) by omega)
        generalize hP : B * (C1 + 1) = P at *
        generalize B * C1 + B1 = D at *
        generalize hCC : C1 + 1 = C at *
        have hC1 : 1 + C1 = C := by omega
        have sD : bitN D ≤ 2560000 := by omega
        have sC1 : bitN C1 ≤ 2560000 := by omega
        have sB1 : bitN B1 ≤ 2560000 := by omega
        have eP := Lib.hid hP; have eD := Lib.hid hD; have eC := Lib.hid hC1; have eB1 := Lib.hid hB1
        clear q1 q2 q3 q4 bA bB bC hP hD hC1 hB1 hCC r1 r2 r3
        go_enter Tryd.func6, Tryd.ntmps6
        go_wp2_with
        (first
          | (go_at_call 7; (with_reducible refine (alive3_any HT).mono ?_); rintro e w1 ⟨rfl, hb1⟩; have B1 := hb1; have a1 := RA.below hb1; have b1 := RB.below hb1; have c1 := RC.below hb1; have T1 := HT.below hb1; clear RA RB RC HT)
          | (go_at_call 17; (with_reducible refine (bits_n b1 eB.out).mono ?_); rintro e w2 ⟨rfl, hb2⟩; have B2 := B1.trans (hb2.mono B1.size); have a2 := a1.below hb2; have b2 := b1.below hb2; have c2 := c1.below hb2; have T2 := T1.below hb2; clear a1 b1 c1 T1)
          | (go_at_call 9; (with_reducible refine (div_n a2 b2 T2 hB eQ.out eR.out).mono ?_); rintro e w3 ⟨vq3, vr3, rfl, q3, r3, hb3⟩; have B3 := B2.trans (hb3.mono B2.size); have a3 := a2.below hb3; have b3 := b2.below hb3; have c3 := c2.below hb3; have T3 := T2.below hb3; clear a2 b2 c2 T2)
          | (go_at_call 20; (with_reducible refine (mul_n (q3.num sQ) b3 eM.out sQB).mono ?_); rintro e w4 ⟨vm4, rfl, m4, hb4⟩; have B4 := B3.trans (hb4.mono B3.size); have a4 := a3.below hb4; have b4 := b3.below hb4; have c4 := c3.below hb4; have T4 := T3.below hb4; have q4 := q3.below hb4; have r4 := r3.below hb4; clear a3 b3 c3 T3 q3 r3)
          | (go_at_call 19; (with_reducible refine (add_n (m4.num sM) (r4.num sR) eA.out).mono ?_); rintro e w5 ⟨vs5, rfl, s5, hb5⟩; have B5 := B4.trans (hb5.mono B4.size); have a5 := a4.below hb5; have b5 := b4.below hb5; have c5 := c4.below hb5; have T5 := T4.below hb5; have q5 := q4.below hb5; have r5 := r4.below hb5; have m5 := m4.below hb5; clear a4 b4 c4 T4 q4 r4 m4)
          | (go_at_call 18; (with_reducible refine (cmp_n (s5.num sA) a5 (cmpN_eq _)).mono ?_); rintro e w6 ⟨rfl, hb6⟩; have B6 := B5.trans (hb6.mono B5.size); have a6 := a5.below hb6; have b6 := b5.below hb6; have c6 := c5.below hb6; have T6 := T5.below hb6; have q6 := q5.below hb6; have r6 := r5.below hb6; have m6 := m5.below hb6; have s6 := s5.below hb6; clear a5 b5 c5 T5 q5 r5 m5 s5)
          | (go_at_call 18; (with_reducible refine (cmp_n (r6.num sR) b6 (cmpN_lt hRB)).mono ?_); rintro e w7 ⟨rfl, hb7⟩; have B7 := B6.trans (hb7.mono B6.size); have a7 := a6.below hb7; have b7 := b6.below hb7; have c7 := c6.below hb7; have T7 := T6.below hb7; have q7 := q6.below hb7; have r7 := r6.below hb7; have m7 := m6.below hb7; have s7 := s6.below hb7; clear a6 b6 c6 T6 q6 r6 m6 s6)
          | (go_at_call 20; (with_reducible refine (mul_n b7 c7 eP.out sBC).mono ?_); rintro e w8 ⟨vp8, rfl, p8, hb8⟩; have B8 := B7.trans (hb8.mono B7.size); have a8 := a7.below hb8; have b8 := b7.below hb8; have c8 := c7.below hb8; have T8 := T7.below hb8; have q8 := q7.below hb8; have r8 := r7.below hb8; have m8 := m7.below hb8; have s8 := s7.below hb8; clear a7 b7 c7 T7 q7 r7 m7 s7)
          | (go_at_call 9; (with_reducible refine (div_n (p8.num sP) b8 T8 hB eP1.out eP2.out).mono ?_); rintro e w9 ⟨vx9, vt9, rfl, x9, t9, hb9⟩; have B9 := B8.trans (hb9.mono B8.size); have a9 := a8.below hb9; have b9 := b8.below hb9; have c9 := c8.below hb9; have T9 := T8.below hb9; have q9 := q8.below hb9; have r9 := r8.below hb9; have m9 := m8.below hb9; have s9 := s8.below hb9; have p9 := p8.below hb9; clear a8 b8 c8 T8 q8 r8 m8 s8 p8; obtain ⟨at9, kt9, rfl⟩ := t9.none)
          | (go_at_call 18; (with_reducible refine (cmp_n (x9.num sC) c9 (cmpN_eq _)).mono ?_); rintro e w10 ⟨rfl, hb10⟩; have B10 := B9.trans (hb10.mono B9.size); have a10 := a9.below hb10; have b10 := b9.below hb10; have c10 := c9.below hb10; have T10 := T9.below hb10; have q10 := q9.below hb10; have r10 := r9.below hb10; have m10 := m9.below hb10; have s10 := s9.below hb10; have p10 := p9.below hb10; have x10 := x9.below hb10; have t10 := t9.below hb10; clear a9 b9 c9 T9 q9 r9 m9 s9 p9 x9 t9)
          | (go_at_call 22; (with_reducible refine (sub_n ((p10.below (below_alloc _ _)).num sP) (RdN.num1 ?_ h1B) eD.out).mono ?_); (exact rd_one (heap_alloc_new _ _) trivial); rintro e w11 ⟨vd11, rfl, d11, hb11⟩; have hb11' := (below_a hb11); have B11 := B10.trans (hb11'.mono B10.size); have a11 := a10.below hb11'; have b11 := b10.below hb11'; have c11 := c10.below hb11'; have T11 := T10.below hb11'; have q11 := q10.below hb11'; have r11 := r10.below hb11'; have m11 := m10.below hb11'; have s11 := s10.below hb11'; have p11 := p10.below hb11'; have x11 := x10.below hb11'; have t11 := t10.below hb11'; clear a10 b10 c10 T10 q10 r10 m10 s10 p10 x10 t10)
          | (go_at_call 9; (with_reducible refine (div_n (d11.num sD) b11 T11 hB eD1.out eD2.out).mono ?_); rintro e w12 ⟨vu12, vv12, rfl, u12, v12, hb12⟩; have B12 := B11.trans (hb12.mono B11.size); have a12 := a11.below hb12; have b12 := b11.below hb12; have c12 := c11.below hb12; have T12 := T11.below hb12; have q12 := q11.below hb12; have r12 := r11.below hb12; have m12 := m11.below hb12; have s12 := s11.below hb12; have p12 := p11.below hb12; have x12 := x11.below hb12; have t12 := t11.below hb12; have d12 := d11.below hb12; clear a11 b11 c11 T11 q11 r11 m11 s11 p11 x11 t11 d11)
          | (go_at_call 22; (with_reducible refine (sub_n (c12.below (below_alloc _ _)) (RdN.num1 ?_ h1B) eC.out).mono ?_); (exact rd_one (heap_alloc_new _ _) trivial); rintro e w13 ⟨vy13, rfl, y13, hb13⟩; have hb13' := (below_a hb13); have B13 := B12.trans (hb13'.mono B12.size); have a13 := a12.below hb13'; have b13 := b12.below hb13'; have c13 := c12.below hb13'; have T13 := T12.below hb13'; have q13 := q12.below hb13'; have r13 := r12.below hb13'; have m13 := m12.below hb13'; have s13 := s12.below hb13'; have p13 := p12.below hb13'; have x13 := x12.below hb13'; have t13 := t12.below hb13'; have d13 := d12.below hb13'; have u13 := u12.below hb13'; have v13 := v12.below hb13'; clear a12 b12 c12 T12 q12 r12 m12 s12 p12 x12 t12 d12 u12 v12)
          | (go_at_call 18; (with_reducible refine (cmp_n (u13.num sC1) (y13.num sC1) (cmpN_eq _)).mono ?_); rintro e w14 ⟨rfl, hb14⟩; have B14 := B13.trans (hb14.mono B13.size); have a14 := a13.below hb14; have b14 := b13.below hb14; have c14 := c13.below hb14; have T14 := T13.below hb14; have q14 := q13.below hb14; have r14 := r13.below hb14; have m14 := m13.below hb14; have s14 := s13.below hb14; have p14 := p13.below hb14; have x14 := x13.below hb14; have t14 := t13.below hb14; have d14 := d13.below hb14; have u14 := u13.below hb14; have v14 := v13.below hb14; have y14 := y13.below hb14; clear a13 b13 c13 T13 q13 r13 m13 s13 p13 x13 t13 d13 u13 v13 y13)
          | (go_at_call 19; (with_reducible refine (add_n ((v14.below (below_alloc _ _)).num sB1) (RdN.num1 ?_ h1B) eB1.out).mono ?_); (exact rd_one (heap_alloc_new _ _) trivial); rintro e w15 ⟨vz15, rfl, z15, hb15⟩; have hb15' := (below_a hb15); have B15 := B14.trans (hb15'.mono B14.size); have a15 := a14.below hb15'; have b15 := b14.below hb15'; have c15 := c14.below hb15'; have T15 := T14.below hb15'; have q15 := q14.below hb15'; have r15 := r14.below hb15'; have m15 := m14.below hb15'; have s15 := s14.below hb15'; have p15 := p14.below hb15'; have x15 := x14.below hb15'; have t15 := t14.below hb15'; have d15 := d14.below hb15'; have u15 := u14.below hb15'; have v15 := v14.below hb15'; have y15 := y14.below hb15'; clear a14 b14 c14 T14 q14 r14 m14 s14 p14 x14 t14 d14 u14 v14 y14)
          | (go_at_call 18; (with_reducible refine (cmp_n (z15.num sB) b15 (cmpN_eq _)).mono ?_); rintro e w16 ⟨rfl, hb16⟩; have B16 := B15.trans (hb16.mono B15.size); have a16 := a15.below hb16; have b16 := b15.below hb16; have c16 := c15.below hb16; have T16 := T15.below hb16; have q16 := q15.below hb16; have r16 := r15.below hb16; have m16 := m15.below hb16; have s16 := s15.below hb16; have p16 := p15.below hb16; have x16 := x15.below hb16; have t16 := t15.below hb16; have d16 := d15.below hb16; have u16 := u15.below hb16; have v16 := v15.below hb16; have y16 := y15.below hb16; have z16 := z15.below hb16; clear a15 b15 c15 T15 q15 r15 m15 s15 p15 x15 t15 d15 u15 v15 y15 z15)
          | fail)
        go_ret
        exact ⟨rfl, by assumption⟩
end Go.Proofs.YtmocoipenaodaaaDoor.PBack
