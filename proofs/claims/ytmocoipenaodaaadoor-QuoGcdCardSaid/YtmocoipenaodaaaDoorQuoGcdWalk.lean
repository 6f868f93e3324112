/- QuoGcd returns true and leaves what was there: the walk. Conditions: math/bits' table stands in its variable. -/
import Derived.Test.YtmocoipenaodaaaDoorLaw3
import Derived.Test.YtmocoipenaodaaaDoorNumB
namespace Go.Proofs.YtmocoipenaodaaaDoor.PGcd
open Go.RowKit Go.Proofs.YtmocoipenaodaaaDoor


set_option maxRecDepth 100000 in
set_option maxHeartbeats 1000000 in
theorem walk (a0 : Option Addr) (len0 cap0 : Nat) (z0 : List Int) (a1 : Option Addr) (len1 cap1 : Nat) (z1 : List Int) (a2 : Option Addr) (len2 cap2 : Nat) (z2 : List Int) (w : World) (w0 : IsRow .u64 w a0 len0 cap0 z0) (w1 : IsRow .u64 w a1 len1 cap1 z1) (w2 : IsRow .u64 w a2 len2 cap2 z2) (hT : Tab w) :
    Calls Tryd.prog 5 #[.slice a0 len0 cap0, .slice a1 len1 cap1, .slice a2 len2 cap2] w fun e w' => e = .returned (.bool true) ∧ Below w.heap.size w w' := by
  obtain ⟨l, hl, dl, RL, hl64⟩ := w0.nums
  obtain ⟨m, hm, dm, RM, hm64⟩ := w1.nums
  obtain ⟨c, hc, dc, RC, hc64⟩ := w2.nums
  clear w0 w1 w2
  have h1B : 1 < BB := by decide
  by_cases hbig : 12 < len0 ∨ 12 < len1 ∨ 4 < len2
  · clear RL RM RC dl dm dc hl hm hc
    by_cases hb0 : 12 < len0
    · go_enter Tryd.func5, Tryd.ntmps5
      go_wp2_with (go_at_call 7; (with_reducible refine (alive3_any hT).mono ?_); rintro e wa ⟨rfl, hba⟩)
      go_ret
      exact ⟨rfl, hba⟩
    · by_cases hb1 : 12 < len1
      all_goals
        go_enter Tryd.func5, Tryd.ntmps5
        go_wp2_with (go_at_call 7; (with_reducible refine (alive3_any hT).mono ?_); rintro e wa ⟨rfl, hba⟩)
        go_ret
        exact ⟨rfl, hba⟩
  · have dec0 : decide (12 < (len0 : Int)) = false := decide_eq_false (by omega)
    have dec1 : decide (12 < (len1 : Int)) = false := decide_eq_false (by omega)
    have dec2 : decide (4 < (len2 : Int)) = false := decide_eq_false (by omega)
    have HT := hT
    clear hT
    have bA := val_bits dl (show l.length ≤ 12 by omega)
    have bB := val_bits dm (show m.length ≤ 12 by omega)
    have bC := val_bits dc (show c.length ≤ 4 by omega)
    have RA := RL.numl dl (by omega)
    have RB := RM.numl dm (by omega)
    have RC := RC.numl dc (by omega)
    clear dl dm dc RL RM hbig
    generalize val BB l = A at *
    generalize val BB m = B at *
    generalize val BB c = C at *
    have q1 := bitN_mul_le A C
    have q2 := bitN_mul_le B C
    have sA : bitN A ≤ 2560000 := by omega
    have sAC : bitN A + bitN C ≤ 65536 := by omega
    have sBC : bitN B + bitN C ≤ 65536 := by omega
    have gC : C ∣ Nat.gcd (A * C) (B * C) := Nat.dvd_gcd (Nat.dvd_mul_left _ _) (Nat.dvd_mul_left _ _)
    have hC0 : A * C ≠ 0 → C ≠ 0 := fun h e => h (by rw [e, Nat.mul_zero])
    generalize hX : A * C = X at *
    generalize hY : B * C = Y at *
    have sX : bitN X ≤ 2560000 := by omega
    have sY : bitN Y ≤ 2560000 := by omega
    have gX : Nat.gcd X Y ∣ X := Nat.gcd_dvd_left _ _
    have gY : Nat.gcd X Y ∣ Y := Nat.gcd_dvd_right _ _
    have hH : Nat.gcd Y X = Nat.gcd X Y := Nat.gcd_comm _ _
    have g1 : Nat.gcd X Y ≠ 0 → Nat.gcd (X / Nat.gcd X Y) (Y / Nat.gcd X Y) = 1 := fun h => by rw [Nat.gcd_div gX gY, Nat.div_self (Nat.pos_of_ne_zero h)]
    have eX := Lib.hid hX; have eY := Lib.hid hY
    clear hX hY q1 q2 bA bB bC
    by_cases hX0 : X = 0
    · subst hX0
      have eG := Lib.hid (Nat.gcd_zero_left Y)
      have eH := Lib.hid (Nat.gcd_zero_right Y)
      have eS := Lib.hid (Nat.zero_add Y)
      have eBX := Lib.hid bitN_zero
      have sG := sY
      clear gC hC0 gX gY hH g1
      go_enter Tryd.func5, Tryd.ntmps5
      go_wp2_with
      (first
        | (go_at_call 7; (with_reducible refine (alive3_any HT).mono ?_); rintro e w1 ⟨rfl, hb1⟩; have B1 := hb1; have a1 := RA.below hb1; have b1 := RB.below hb1; have c1 := RC.below hb1; have T1 := HT.below hb1; clear RA RB RC HT)
        | (go_at_call 20; (with_reducible refine (mul_n a1 c1 eX.out sAC).mono ?_); rintro e w2 ⟨vx2, rfl, x2, hb2⟩; have B2 := B1.trans (hb2.mono B1.size); have a2 := a1.below hb2; have b2 := b1.below hb2; have c2 := c1.below hb2; have T2 := T1.below hb2; clear a1 b1 c1 T1)
        | (go_at_call 20; (with_reducible refine (mul_n b2 c2 eY.out sBC).mono ?_); rintro e w3 ⟨vy3, rfl, y3, hb3⟩; have B3 := B2.trans (hb3.mono B2.size); have a3 := a2.below hb3; have b3 := b2.below hb3; have c3 := c2.below hb3; have T3 := T2.below hb3; have x3 := x2.below hb3; clear a2 b2 c2 T2 x2)
        | (go_at_call 21; (with_reducible refine (gcd_n (x3.num sX) (y3.num sY) T3 eG.out).mono ?_); rintro e w4 ⟨vg4, rfl, g4, hb4⟩; have B4 := B3.trans (hb4.mono B3.size); have a4 := a3.below hb4; have b4 := b3.below hb4; have c4 := c3.below hb4; have T4 := T3.below hb4; have x4 := x3.below hb4; have y4 := y3.below hb4; clear a3 b3 c3 T3 x3 y3)
        | (go_at_call 21; (with_reducible refine (gcd_n (y4.num sY) (x4.num sX) T4 eH.out).mono ?_); rintro e w5 ⟨vh5, rfl, h5, hb5⟩; have B5 := B4.trans (hb5.mono B4.size); have a5 := a4.below hb5; have b5 := b4.below hb5; have c5 := c4.below hb5; have T5 := T4.below hb5; have x5 := x4.below hb5; have y5 := y4.below hb5; have g5 := g4.below hb5; clear a4 b4 c4 T4 x4 y4 g4)
        | (go_at_call 18; (with_reducible refine (cmp_n (g5.num sG) (h5.num sG) (cmpN_eq _)).mono ?_); rintro e w6 ⟨rfl, hb6⟩; have B6 := B5.trans (hb6.mono B5.size); have a6 := a5.below hb6; have b6 := b5.below hb6; have c6 := c5.below hb6; have T6 := T5.below hb6; have x6 := x5.below hb6; have y6 := y5.below hb6; have g6 := g5.below hb6; have h6 := h5.below hb6; clear a5 b5 c5 T5 x5 y5 g5 h5)
        | (go_at_call 21; (with_reducible refine (gcd_n a6 (Num.nil _) T6 (Nat.gcd_zero_right _)).mono ?_); rintro e w7 ⟨vi7, rfl, i7, hb7⟩; have B7 := B6.trans (hb7.mono B6.size); have a7 := a6.below hb7; have b7 := b6.below hb7; have c7 := c6.below hb7; have T7 := T6.below hb7; have x7 := x6.below hb7; have y7 := y6.below hb7; have g7 := g6.below hb7; have h7 := h6.below hb7; clear a6 b6 c6 T6 x6 y6 g6 h6)
        | (go_at_call 18; (with_reducible refine (cmp_n (i7.num sA) a7 (cmpN_eq _)).mono ?_); rintro e w8 ⟨rfl, hb8⟩; have B8 := B7.trans (hb8.mono B7.size); have a8 := a7.below hb8; have b8 := b7.below hb8; have c8 := c7.below hb8; have T8 := T7.below hb8; have x8 := x7.below hb8; have y8 := y7.below hb8; have g8 := g7.below hb8; have h8 := h7.below hb8; have i8 := i7.below hb8; clear a7 b7 c7 T7 x7 y7 g7 h7 i7)
        | (go_at_call 17; (with_reducible refine (bits_n (x8.num sX) eBX.out).mono ?_); rintro e w9 ⟨rfl, hb9⟩; have B9 := B8.trans (hb9.mono B8.size); have a9 := a8.below hb9; have b9 := b8.below hb9; have c9 := c8.below hb9; have T9 := T8.below hb9; have x9 := x8.below hb9; have y9 := y8.below hb9; have g9 := g8.below hb9; have h9 := h8.below hb9; have i9 := i8.below hb9; clear a8 b8 c8 T8 x8 y8 g8 h8 i8)
        | (go_at_call 19; (with_reducible refine (add_n (x9.num sX) (y9.num sY) eS.out).mono ?_); rintro e w10 ⟨vs10, rfl, s10, hb10⟩; have B10 := B9.trans (hb10.mono B9.size); have a10 := a9.below hb10; have b10 := b9.below hb10; have c10 := c9.below hb10; have T10 := T9.below hb10; have x10 := x9.below hb10; have y10 := y9.below hb10; have g10 := g9.below hb10; have h10 := h9.below hb10; have i10 := i9.below hb10; clear a9 b9 c9 T9 x9 y9 g9 h9 i9)
        | (go_at_call 18; (with_reducible refine (cmp_n (g10.num sG) (s10.num sG) (cmpN_eq _)).mono ?_); rintro e w11 ⟨rfl, hb11⟩; have B11 := B10.trans (hb11.mono B10.size); have a11 := a10.below hb11; have b11 := b10.below hb11; have c11 := c10.below hb11; have T11 := T10.below hb11; have x11 := x10.below hb11; have y11 := y10.below hb11; have g11 := g10.below hb11; have h11 := h10.below hb11; have i11 := i10.below hb11; have s11 := s10.below hb11; clear a10 b10 c10 T10 x10 y10 g10 h10 i10 s10)
        | fail)
      all_goals
        go_ret
        exact ⟨rfl, by assumption⟩
    · have hbx : bitN X ≠ 0 := fun h => hX0 (eq_zero_of_bitN h)
      generalize hbb : bitN X = bx at hbx
      have eBX := Lib.hid hbb
      have hbi : (bx : Int) ≠ 0 := by omega
      have hbq : ((bx : Int) == 0) = false := beq_false_of_ne hbi
      clear hbb
      by_cases hY0 : Y = 0
      · subst hY0
        have eG := Lib.hid (Nat.gcd_zero_right X)
        have eH := Lib.hid (Nat.gcd_zero_left X)
        have eS := Lib.hid (Nat.add_zero X)
        have eBY := Lib.hid bitN_zero
        have sG := sX
        clear gC hC0 gX gY hH g1
        go_enter Tryd.func5, Tryd.ntmps5
        go_wp2_with
        (first
          | (go_at_call 7; (with_reducible refine (alive3_any HT).mono ?_); rintro e w1 ⟨rfl, hb1⟩; have B1 := hb1; have a1 := RA.below hb1; have b1 := RB.below hb1; have c1 := RC.below hb1; have T1 := HT.below hb1; clear RA RB RC HT)
          | (go_at_call 20; (with_reducible refine (mul_n a1 c1 eX.out sAC).mono ?_); rintro e w2 ⟨vx2, rfl, x2, hb2⟩; have B2 := B1.trans (hb2.mono B1.size); have a2 := a1.below hb2; have b2 := b1.below hb2; have c2 := c1.below hb2; have T2 := T1.below hb2; clear a1 b1 c1 T1)
          | (go_at_call 20; (with_reducible refine (mul_n b2 c2 eY.out sBC).mono ?_); rintro e w3 ⟨vy3, rfl, y3, hb3⟩; have B3 := B2.trans (hb3.mono B2.size); have a3 := a2.below hb3; have b3 := b2.below hb3; have c3 := c2.below hb3; have T3 := T2.below hb3; have x3 := x2.below hb3; clear a2 b2 c2 T2 x2)
          | (go_at_call 21; (with_reducible refine (gcd_n (x3.num sX) (y3.num sY) T3 eG.out).mono ?_); rintro e w4 ⟨vg4, rfl, g4, hb4⟩; have B4 := B3.trans (hb4.mono B3.size); have a4 := a3.below hb4; have b4 := b3.below hb4; have c4 := c3.below hb4; have T4 := T3.below hb4; have x4 := x3.below hb4; have y4 := y3.below hb4; clear a3 b3 c3 T3 x3 y3)
          | (go_at_call 21; (with_reducible refine (gcd_n (y4.num sY) (x4.num sX) T4 eH.out).mono ?_); rintro e w5 ⟨vh5, rfl, h5, hb5⟩; have B5 := B4.trans (hb5.mono B4.size); have a5 := a4.below hb5; have b5 := b4.below hb5; have c5 := c4.below hb5; have T5 := T4.below hb5; have x5 := x4.below hb5; have y5 := y4.below hb5; have g5 := g4.below hb5; clear a4 b4 c4 T4 x4 y4 g4)
          | (go_at_call 18; (with_reducible refine (cmp_n (g5.num sG) (h5.num sG) (cmpN_eq _)).mono ?_); rintro e w6 ⟨rfl, hb6⟩; have B6 := B5.trans (hb6.mono B5.size); have a6 := a5.below hb6; have b6 := b5.below hb6; have c6 := c5.below hb6; have T6 := T5.below hb6; have x6 := x5.below hb6; have y6 := y5.below hb6; have g6 := g5.below hb6; have h6 := h5.below hb6; clear a5 b5 c5 T5 x5 y5 g5 h5)
          | (go_at_call 21; (with_reducible refine (gcd_n a6 (Num.nil _) T6 (Nat.gcd_zero_right _)).mono ?_); rintro e w7 ⟨vi7, rfl, i7, hb7⟩; have B7 := B6.trans (hb7.mono B6.size); have a7 := a6.below hb7; have b7 := b6.below hb7; have c7 := c6.below hb7; have T7 := T6.below hb7; have x7 := x6.below hb7; have y7 := y6.below hb7; have g7 := g6.below hb7; have h7 := h6.below hb7; clear a6 b6 c6 T6 x6 y6 g6 h6)
          | (go_at_call 18; (with_reducible refine (cmp_n (i7.num sA) a7 (cmpN_eq _)).mono ?_); rintro e w8 ⟨rfl, hb8⟩; have B8 := B7.trans (hb8.mono B7.size); have a8 := a7.below hb8; have b8 := b7.below hb8; have c8 := c7.below hb8; have T8 := T7.below hb8; have x8 := x7.below hb8; have y8 := y7.below hb8; have g8 := g7.below hb8; have h8 := h7.below hb8; have i8 := i7.below hb8; clear a7 b7 c7 T7 x7 y7 g7 h7 i7)
          | (go_at_call 17; (with_reducible refine (bits_n (x8.num sX) eBX.out).mono ?_); rintro e w9 ⟨rfl, hb9⟩; have B9 := B8.trans (hb9.mono B8.size); have a9 := a8.below hb9; have b9 := b8.below hb9; have c9 := c8.below hb9; have T9 := T8.below hb9; have x9 := x8.below hb9; have y9 := y8.below hb9; have g9 := g8.below hb9; have h9 := h8.below hb9; have i9 := i8.below hb9; clear a8 b8 c8 T8 x8 y8 g8 h8 i8)
          | (go_at_call 17; (with_reducible refine (bits_n (y9.num sY) eBY.out).mono ?_); rintro e w10 ⟨rfl, hb10⟩; have B10 := B9.trans (hb10.mono B9.size); have a10 := a9.below hb10; have b10 := b9.below hb10; have c10 := c9.below hb10; have T10 := T9.below hb10; have x10 := x9.below hb10; have y10 := y9.below hb10; have g10 := g9.below hb10; have h10 := h9.below hb10; have i10 := i9.below hb10; clear a9 b9 c9 T9 x9 y9 g9 h9 i9)
          | (go_at_call 19; (with_reducible refine (add_n (x10.num sX) (y10.num sY) eS.out).mono ?_); rintro e w11 ⟨vs11, rfl, s11, hb11⟩; have B11 := B10.trans (hb11.mono B10.size); have a11 := a10.below hb11; have b11 := b10.below hb11; have c11 := c10.below hb11; have T11 := T10.below hb11; have x11 := x10.below hb11; have y11 := y10.below hb11; have g11 := g10.below hb11; have h11 := h10.below hb11; have i11 := i10.below hb11; clear a10 b10 c10 T10 x10 y10 g10 h10 i10)
          | (go_at_call 18; (with_reducible refine (cmp_n (g11.num sG) (s11.num sG) (cmpN_eq _)).mono ?_); rintro e w12 ⟨rfl, hb12⟩; have B12 := B11.trans (hb12.mono B11.size); have a12 := a11.below hb12; have b12 := b11.below hb12; have c12 := c11.below hb12; have T12 := T11.below hb12; have x12 := x11.below hb12; have y12 := y11.below hb12; have g12 := g11.below hb12; have h12 := h11.below hb12; have i12 := i11.below hb12; have s12 := s11.below hb12; clear a11 b11 c11 T11 x11 y11 g11 h11 i11 s11)
          | fail)
        all_goals
          go_ret
          exact ⟨rfl, by assumption⟩
      · have hby : bitN Y ≠ 0 := fun h => hY0 (eq_zero_of_bitN h)
        generalize hbb : bitN Y = bY at hby
        have eBY := Lib.hid hbb
        have hbj : (bY : Int) ≠ 0 := by omega
        have hbr : ((bY : Int) == 0) = false := beq_false_of_ne hbj
        clear hbb
        have hG0 : Nat.gcd X Y ≠ 0 := fun h => hX0 (Nat.eq_zero_of_gcd_eq_zero_left h)
        have g2 := g1 hG0
        have hC := hC0 hX0
        have m1 := bitN_mono (Nat.le_of_dvd (Nat.pos_of_ne_zero hX0) gX)
        generalize hG' : Nat.gcd X Y = G at *
        have hG := hG0
        have eG := Lib.hid hG'
        have eH := Lib.hid hH
        have eP0 := Lib.hid (Nat.mod_eq_zero_of_dvd gX)
        have eQ0 := Lib.hid (Nat.mod_eq_zero_of_dvd gY)
        have eT0 := Lib.hid (Nat.mod_eq_zero_of_dvd gC)
        have m2 := bitN_mono (Nat.div_le_self X G)
        have m3 := bitN_mono (Nat.div_le_self Y G)
        generalize hP : X / G = P at *
        generalize hQ : Y / G = Q at *
        have eP := Lib.hid hP; have eQ := Lib.hid hQ
        have e1 := Lib.hid g2
        have sG : bitN G ≤ 2560000 := by omega
        have sP : bitN P ≤ 2560000 := by omega
        have sQ : bitN Q ≤ 2560000 := by omega
        have s1 : bitN 1 ≤ 2560000 := by decide
        clear gC hC0 gX gY hH g1 hG0 hG' hP hQ g2 m1 m2 m3
        go_enter Tryd.func5, Tryd.ntmps5
        go_wp2_with
        (first
          | (go_at_call 7; (with_reducible refine (alive3_any HT).mono ?_); rintro e w1 ⟨rfl, hb1⟩; have B1 := hb1; have a1 := RA.below hb1; have b1 := RB.below hb1; have c1 := RC.below hb1; have T1 := HT.below hb1; clear RA RB RC HT)
          | (go_at_call 20; (with_reducible refine (mul_n a1 c1 eX.out sAC).mono ?_); rintro e w2 ⟨vx2, rfl, x2, hb2⟩; have B2 := B1.trans (hb2.mono B1.size); have a2 := a1.below hb2; have b2 := b1.below hb2; have c2 := c1.below hb2; have T2 := T1.below hb2; clear a1 b1 c1 T1)
          | (go_at_call 20; (with_reducible refine (mul_n b2 c2 eY.out sBC).mono ?_); rintro e w3 ⟨vy3, rfl, y3, hb3⟩; have B3 := B2.trans (hb3.mono B2.size); have a3 := a2.below hb3; have b3 := b2.below hb3; have c3 := c2.below hb3; have T3 := T2.below hb3; have x3 := x2.below hb3; clear a2 b2 c2 T2 x2)
          | (go_at_call 21; (with_reducible refine (gcd_n (x3.num sX) (y3.num sY) T3 eG.out).mono ?_); rintro e w4 ⟨vg4, rfl, g4, hb4⟩; have B4 := B3.trans (hb4.mono B3.size); have a4 := a3.below hb4; have b4 := b3.below hb4; have c4 := c3.below hb4; have T4 := T3.below hb4; have x4 := x3.below hb4; have y4 := y3.below hb4; clear a3 b3 c3 T3 x3 y3)
          | (go_at_call 21; (with_reducible refine (gcd_n (y4.num sY) (x4.num sX) T4 eH.out).mono ?_); rintro e w5 ⟨vh5, rfl, h5, hb5⟩; have B5 := B4.trans (hb5.mono B4.size); have a5 := a4.below hb5; have b5 := b4.below hb5; have c5 := c4.below hb5; have T5 := T4.below hb5; have x5 := x4.below hb5; have y5 := y4.below hb5; have g5 := g4.below hb5; clear a4 b4 c4 T4 x4 y4 g4)
          | (go_at_call 18; (with_reducible refine (cmp_n (g5.num sG) (h5.num sG) (cmpN_eq _)).mono ?_); rintro e w6 ⟨rfl, hb6⟩; have B6 := B5.trans (hb6.mono B5.size); have a6 := a5.below hb6; have b6 := b5.below hb6; have c6 := c5.below hb6; have T6 := T5.below hb6; have x6 := x5.below hb6; have y6 := y5.below hb6; have g6 := g5.below hb6; have h6 := h5.below hb6; clear a5 b5 c5 T5 x5 y5 g5 h5)
          | (go_at_call 21; (with_reducible refine (gcd_n a6 (Num.nil _) T6 (Nat.gcd_zero_right _)).mono ?_); rintro e w7 ⟨vi7, rfl, i7, hb7⟩; have B7 := B6.trans (hb7.mono B6.size); have a7 := a6.below hb7; have b7 := b6.below hb7; have c7 := c6.below hb7; have T7 := T6.below hb7; have x7 := x6.below hb7; have y7 := y6.below hb7; have g7 := g6.below hb7; have h7 := h6.below hb7; clear a6 b6 c6 T6 x6 y6 g6 h6)
          | (go_at_call 18; (with_reducible refine (cmp_n (i7.num sA) a7 (cmpN_eq _)).mono ?_); rintro e w8 ⟨rfl, hb8⟩; have B8 := B7.trans (hb8.mono B7.size); have a8 := a7.below hb8; have b8 := b7.below hb8; have c8 := c7.below hb8; have T8 := T7.below hb8; have x8 := x7.below hb8; have y8 := y7.below hb8; have g8 := g7.below hb8; have h8 := h7.below hb8; have i8 := i7.below hb8; clear a7 b7 c7 T7 x7 y7 g7 h7 i7)
          | (go_at_call 17; (with_reducible refine (bits_n (x8.num sX) eBX.out).mono ?_); rintro e w9 ⟨rfl, hb9⟩; have B9 := B8.trans (hb9.mono B8.size); have a9 := a8.below hb9; have b9 := b8.below hb9; have c9 := c8.below hb9; have T9 := T8.below hb9; have x9 := x8.below hb9; have y9 := y8.below hb9; have g9 := g8.below hb9; have h9 := h8.below hb9; have i9 := i8.below hb9; clear a8 b8 c8 T8 x8 y8 g8 h8 i8)
          | (go_at_call 17; (with_reducible refine (bits_n (y9.num sY) eBY.out).mono ?_); rintro e w10 ⟨rfl, hb10⟩; have B10 := B9.trans (hb10.mono B9.size); have a10 := a9.below hb10; have b10 := b9.below hb10; have c10 := c9.below hb10; have T10 := T9.below hb10; have x10 := x9.below hb10; have y10 := y9.below hb10; have g10 := g9.below hb10; have h10 := h9.below hb10; have i10 := i9.below hb10; clear a9 b9 c9 T9 x9 y9 g9 h9 i9)
          | (go_at_call 9; (with_reducible refine (div_n (x10.num sX) (g10.num sG) T10 hG eP.out eP0.out).mono ?_); rintro e w11 ⟨vp11, vr11, rfl, p11, r11, hb11⟩; have B11 := B10.trans (hb11.mono B10.size); have a11 := a10.below hb11; have b11 := b10.below hb11; have c11 := c10.below hb11; have T11 := T10.below hb11; have x11 := x10.below hb11; have y11 := y10.below hb11; have g11 := g10.below hb11; have h11 := h10.below hb11; have i11 := i10.below hb11; clear a10 b10 c10 T10 x10 y10 g10 h10 i10; obtain ⟨ar11, kr11, rfl⟩ := r11.none)
          | (go_at_call 9; (with_reducible refine (div_n (y11.num sY) (g11.num sG) T11 hG eQ.out eQ0.out).mono ?_); rintro e w12 ⟨vq12, vs12, rfl, q12, s12, hb12⟩; have B12 := B11.trans (hb12.mono B11.size); have a12 := a11.below hb12; have b12 := b11.below hb12; have c12 := c11.below hb12; have T12 := T11.below hb12; have x12 := x11.below hb12; have y12 := y11.below hb12; have g12 := g11.below hb12; have h12 := h11.below hb12; have i12 := i11.below hb12; have p12 := p11.below hb12; have r12 := r11.below hb12; clear a11 b11 c11 T11 x11 y11 g11 h11 i11 p11 r11; obtain ⟨as12, ks12, rfl⟩ := s12.none)
          | (go_at_call 9; (with_reducible refine (div_n (g12.num sG) c12 T12 hC rfl eT0.out).mono ?_); rintro e w13 ⟨vu13, vt13, rfl, u13, t13, hb13⟩; have B13 := B12.trans (hb13.mono B12.size); have a13 := a12.below hb13; have b13 := b12.below hb13; have c13 := c12.below hb13; have T13 := T12.below hb13; have x13 := x12.below hb13; have y13 := y12.below hb13; have g13 := g12.below hb13; have h13 := h12.below hb13; have i13 := i12.below hb13; have p13 := p12.below hb13; have r13 := r12.below hb13; have q13 := q12.below hb13; have s13 := s12.below hb13; clear a12 b12 c12 T12 x12 y12 g12 h12 i12 p12 r12 q12 s12; obtain ⟨at13, kt13, rfl⟩ := t13.none)
          | (go_at_call 21; (with_reducible refine (gcd_n (p13.num sP) (q13.num sQ) T13 e1.out).mono ?_); rintro e w14 ⟨vj14, rfl, j14, hb14⟩; have B14 := B13.trans (hb14.mono B13.size); have a14 := a13.below hb14; have b14 := b13.below hb14; have c14 := c13.below hb14; have T14 := T13.below hb14; have x14 := x13.below hb14; have y14 := y13.below hb14; have g14 := g13.below hb14; have h14 := h13.below hb14; have i14 := i13.below hb14; have p14 := p13.below hb14; have r14 := r13.below hb14; have q14 := q13.below hb14; have s14 := s13.below hb14; have u14 := u13.below hb14; have t14 := t13.below hb14; clear a13 b13 c13 T13 x13 y13 g13 h13 i13 p13 r13 q13 s13 u13 t13)
          | (go_at_call 18; (with_reducible refine (cmp_n ((j14.below (below_alloc _ _)).num s1) (RdN.num1 ?_ h1B) (cmpN_eq _)).mono ?_); (exact rd_one (heap_alloc_new _ _) trivial); rintro e w15 ⟨rfl, hb15⟩; have hb15' := (below_a hb15); have B15 := B14.trans (hb15'.mono B14.size); have a15 := a14.below hb15'; have b15 := b14.below hb15'; have c15 := c14.below hb15'; have T15 := T14.below hb15'; have x15 := x14.below hb15'; have y15 := y14.below hb15'; have g15 := g14.below hb15'; have h15 := h14.below hb15'; have i15 := i14.below hb15'; have p15 := p14.below hb15'; have r15 := r14.below hb15'; have q15 := q14.below hb15'; have s15 := s14.below hb15'; have u15 := u14.below hb15'; have t15 := t14.below hb15'; have j15 := j14.below hb15'; clear a14 b14 c14 T14 x14 y14 g14 h14 i14 p14 r14 q14 s14 u14 t14 j14)
          | fail)
        all_goals
          go_ret
          exact ⟨rfl, by assumption⟩
end Go.Proofs.YtmocoipenaodaaaDoor.PGcd
