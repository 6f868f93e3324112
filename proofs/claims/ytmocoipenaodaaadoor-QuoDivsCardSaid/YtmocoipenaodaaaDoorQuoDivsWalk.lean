/- QuoDivs returns true and leaves what was there: the walk. Conditions: math/bits' table stands in its variable. -/
import Derived.Test.YtmocoipenaodaaaDoorLaw3
namespace Go.Proofs.YtmocoipenaodaaaDoor.PDivs
open Go.RowKit Go.Proofs.YtmocoipenaodaaaDoor


set_option maxRecDepth 100000 in
set_option maxHeartbeats 1000000 in
theorem walk (a0 : Option Addr) (len0 cap0 : Nat) (z0 : List Int) (a1 : Option Addr) (len1 cap1 : Nat) (z1 : List Int) (a2 : Int) (w : World) (w0 : IsRow .u64 w a0 len0 cap0 z0) (w1 : IsRow .u64 w a1 len1 cap1 z1) (w2 : (Lit.int .u64 a2).wf = true) (hT : Tab w) :
    Calls Tryd.prog 3 #[.slice a0 len0 cap0, .slice a1 len1 cap1, .int .u64 a2] w fun e w' => e = .returned (.bool true) ∧ Below w.heap.size w w' := by
  obtain ⟨l, hl, dl, RL, hl64⟩ := w0.nums
  obtain ⟨m, hm, dm, RM, hm64⟩ := w1.nums
  obtain ⟨n, rfl, hn⟩ := u64_nat w2
  clear w0 w1 w2
  by_cases hbig : 30 < len0 ∨ 30 < len1
  · clear RL RM dl dm hl hm
    by_cases hb0 : 30 < len0
    all_goals
      go_enter Tryd.func3, Tryd.ntmps3
      go_wp2_with (go_at_call 7; (with_reducible refine (alive3_any hT).mono ?_); rintro e wa ⟨rfl, hba⟩)
      go_ret
      exact ⟨rfl, hba⟩
  · have dec0 : decide (30 < (len0 : Int)) = false := decide_eq_false (by omega)
    have dec1 : decide (30 < (len1 : Int)) = false := decide_eq_false (by omega)
    have HT := hT
    clear hT
    have bA := val_bits dl (show l.length ≤ 30 by omega)
    have bB := val_bits dm (show m.length ≤ 30 by omega)
    have hn64 : bitN n ≤ 64 := bitN_le.2 (by rw [← BB_pow]; exact hn)
    have HX := Lib.hid (fun w v (h : RdN w v l) => to_any h dl (by omega))
    have HY := Lib.hid (fun w v (h : RdN w v m) => to_any h dm (by omega))
    have HD := Lib.hid (fun w v u (h : RdN w v l) (k : RdN w u m) (hT : Tab w) => div_num h k dl dm (by omega) (by omega) hT)
    have HU := Lib.hid (fun w v u (h : RdN w v l) (k : RdN w u m) (hT : Tab w) => up_num h k dl dm (by omega) (by omega) hT)
    have HSm := Lib.hid (fun w v (h : RdN w v l) => qsmall_any (n := n) h dl (by omega) hn)
    clear dl dm
    generalize val BB l = A at *
    generalize val BB m = B at *
    unfold TwoE divR at HD
    unfold OneE upR at HU
    have lA : (digs DD A).length ≤ 400000 := Nat.le_trans (digsDlen bA) (by decide)
    have lB : (digs DD B).length ≤ 400000 := Nat.le_trans (digsDlen bB) (by decide)
    by_cases hB : B = 0
    · subst hB
      rw [if_pos rfl] at HD HU
      rw [digs_zero] at *
      simp only at HD HU
      go_enter Tryd.func3, Tryd.ntmps3
      go_wp2_with
      (first
        | (go_at_call 7; (with_reducible refine (alive3_any HT).mono ?_); rintro e w1 ⟨rfl, hb1⟩; have B1 := hb1; have a1 := RL.below hb1; have b1 := RM.below hb1; have T1 := HT.below hb1; clear RL RM HT)
        | (go_at_call 8; (with_reducible refine (HX.out _ _ a1).mono ?_); rintro e w2 ⟨vx2, rfl, x2, hb2⟩; have B2 := B1.trans (hb2.mono B1.size); have a2 := a1.below hb2; have b2 := b1.below hb2; have T2 := T1.below hb2; clear a1 b1 T1)
        | (go_at_call 8; (with_reducible refine (HY.out _ _ b2).mono ?_); rintro e w3 ⟨vy3, rfl, y3, hb3⟩; have B3 := B2.trans (hb3.mono B2.size); have a3 := a2.below hb3; have b3 := b2.below hb3; have T3 := T2.below hb3; have x3 := x2.below hb3; clear a2 b2 T2 x2; obtain ⟨ay3, ky3, rfl, -⟩ := y3.view; try simp only [List.length_nil] at y3)
        | (go_at_call 9; (with_reducible refine (HD.out _ _ _ a3 b3 T3).mono ?_); rintro e w4 ⟨vq, vr, rfl, q4, r4, hb4⟩; have B4 := B3.trans (hb4.mono B3.size); have a4 := a3.below hb4; have b4 := b3.below hb4; have T4 := T3.below hb4; have x4 := x3.below hb4; have y4 := y3.below hb4; clear a3 b3 T3 x3 y3; obtain ⟨aq4, kq4, rfl, -⟩ := q4.view; try simp only [List.length_nil] at q4; obtain ⟨ar4, kr4, rfl, -⟩ := r4.view; try simp only [List.length_nil] at r4)
        | (go_at_call 10; (with_reducible refine (HU.out _ _ _ a4 b4 T4).mono ?_); rintro e w5 ⟨vu5, rfl, u5, hb5⟩; have B5 := B4.trans (hb5.mono B4.size); have a5 := a4.below hb5; have b5 := b4.below hb5; have T5 := T4.below hb5; have x5 := x4.below hb5; have y5 := y4.below hb5; have q5 := q4.below hb5; have r5 := r4.below hb5; clear a4 b4 T4 x4 y4 q4 r4; obtain ⟨au5, ku5, rfl, -⟩ := u5.view; try simp only [List.length_nil] at u5)
        | fail)
      go_ret
      exact ⟨rfl, B5⟩
    · rw [if_neg hB] at HD HU
      have hyl : 0 < (digs DD B).length := List.length_pos_iff.2 (fun e => hB ((digs_nil_iff DD_two _).1 e))
      have HRD := Lib.hid (fun w v u (h : RdD w v (digs DD A)) (k : RdD w u (digs DD B)) => rdiv_any h k lA (Nat.pos_of_ne_zero hB))
      unfold TwoD at HRD
      have lQ : (digs DD (A / B)).length ≤ 1000000 := Nat.le_trans (digsD_mono (Nat.div_le_self A B)) (by omega)
      have lR : (digs DD (A % B)).length ≤ 1000000 := Nat.le_trans (digsD_mono (Nat.mod_le A B)) (by omega)
      have lU : (digs DD (A / B + 1)).length ≤ 1000000 := Nat.le_trans (digsDlen (Nat.le_refl _)) (by
        have h1 := bitN_add_le (A / B) 1
        have h2 := bitN_mono (Nat.div_le_self A B)
        have h3 : bitN 1 = 1 := by decide
        omega)
      have HN1 := Lib.hid (fun w => show Calls Tryd.prog 13 #[.int .u64 1] w (OneD w (digs DD 1)) from num_any (n := 1) (by decide))
      have HAd := Lib.hid (fun w v u (h : RdD w v (digs DD (A / B))) (k : RdD w u (digs DD 1)) => radd_any h k lQ (by decide))
      have HNn := Lib.hid (fun w => num_any (w := w) hn)
      have lQ2 : (digs DD (A / n)).length ≤ 1000000 := Nat.le_trans (digsD_mono (Nat.div_le_self A n)) (by omega)
      have lR2 : (digs DD (A % n)).length ≤ 1000000 := Nat.le_trans (digsD_mono (Nat.mod_le A n)) (by omega)
      have HRD2 := Lib.hid (fun w v u (h : RdD w v (digs DD A)) (k : RdD w u (digs DD n)) (hn : 0 < n) => rdiv_any h k lA hn)
      unfold OneLE smallR at HSm
      by_cases hs : A % B = 0
      · rw [if_pos hs, Nat.add_zero] at HU
        rw [hs, digs_zero] at HRD HD
        simp only at HRD HD
        have same3_nil := fun {w : World} {v u : Value} (h : RdN w v []) (k : RdD w u []) => same3_true (n := 0) h k (by decide)
        by_cases hn0 : n = 0
        · subst hn0
          rw [if_pos rfl, digs_zero] at HSm
          have HSm := Lib.hid (fun w v h => show Calls Tryd.prog 15 #[v, .int .u64 0] w _ from HSm.out w v h)
          simp only at HSm
          clear HRD2 lQ2 lR2
          go_enter Tryd.func3, Tryd.ntmps3
          go_wp2_with
            (first
              | (go_at_call 7; (with_reducible refine (alive3_any HT).mono ?_); rintro e w1 ⟨rfl, hb1⟩; have B1 := hb1; have a1 := RL.below hb1; have b1 := RM.below hb1; have T1 := HT.below hb1; clear RL RM HT)
              | (go_at_call 8; (with_reducible refine (HX.out _ _ a1).mono ?_); rintro e w2 ⟨vx2, rfl, x2, hb2⟩; have B2 := B1.trans (hb2.mono B1.size); have a2 := a1.below hb2; have b2 := b1.below hb2; have T2 := T1.below hb2; clear a1 b1 T1)
              | (go_at_call 8; (with_reducible refine (HY.out _ _ b2).mono ?_); rintro e w3 ⟨vy3, rfl, y3, hb3⟩; have B3 := B2.trans (hb3.mono B2.size); have a3 := a2.below hb3; have b3 := b2.below hb3; have T3 := T2.below hb3; have x3 := x2.below hb3; clear a2 b2 T2 x2; obtain ⟨ay3, ky3, rfl, -⟩ := y3.view; try simp only [List.length_nil] at y3)
              | (go_at_call 9; (with_reducible refine (HD.out _ _ _ a3 b3 T3).mono ?_); rintro e w4 ⟨vq4, vr4, rfl, q4, r4, hb4⟩; have B4 := B3.trans (hb4.mono B3.size); have a4 := a3.below hb4; have b4 := b3.below hb4; have T4 := T3.below hb4; have x4 := x3.below hb4; have y4 := y3.below hb4; clear a3 b3 T3 x3 y3)
              | (go_at_call 10; (with_reducible refine (HU.out _ _ _ a4 b4 T4).mono ?_); rintro e w5 ⟨vu5, rfl, u5, hb5⟩; have B5 := B4.trans (hb5.mono B4.size); have a5 := a4.below hb5; have b5 := b4.below hb5; have T5 := T4.below hb5; have x5 := x4.below hb5; have y5 := y4.below hb5; have q5 := q4.below hb5; have r5 := r4.below hb5; clear a4 b4 T4 x4 y4 q4 r4)
              | (go_at_call 11; (with_reducible refine (HRD.out _ _ _ x5 y5).mono ?_); rintro e w6 ⟨vp, vs, rfl, p6, s6, hb6⟩; have B6 := B5.trans (hb6.mono B5.size); have a6 := a5.below hb6; have b6 := b5.below hb6; have T6 := T5.below hb6; have x6 := x5.below hb6; have y6 := y5.below hb6; have q6 := q5.below hb6; have r6 := r5.below hb6; have u6 := u5.below hb6; clear a5 b5 T5 x5 y5 q5 r5 u5; obtain ⟨as6, ks6, rfl, -⟩ := s6.view; try simp only [List.length_nil] at s6)
              | (go_at_call 14; (with_reducible refine (same3_true q6 p6 lQ).mono ?_); rintro e w7 ⟨rfl, hb7⟩; have B7 := B6.trans (hb7.mono B6.size); have a7 := a6.below hb7; have b7 := b6.below hb7; have T7 := T6.below hb7; have x7 := x6.below hb7; have y7 := y6.below hb7; have q7 := q6.below hb7; have r7 := r6.below hb7; have u7 := u6.below hb7; have p7 := p6.below hb7; have s7 := s6.below hb7; clear a6 b6 T6 x6 y6 q6 r6 u6 p6 s6)
              | (go_at_call 14; (with_reducible refine (same3_nil r7 s7).mono ?_); rintro e w8 ⟨rfl, hb8⟩; have B8 := B7.trans (hb8.mono B7.size); have a8 := a7.below hb8; have b8 := b7.below hb8; have T8 := T7.below hb8; have x8 := x7.below hb8; have y8 := y7.below hb8; have q8 := q7.below hb8; have r8 := r7.below hb8; have u8 := u7.below hb8; have p8 := p7.below hb8; have s8 := s7.below hb8; clear a7 b7 T7 x7 y7 q7 r7 u7 p7 s7)
              | (go_at_call 14; (with_reducible refine (same3_true u8 p8 lQ).mono ?_); rintro e w9 ⟨rfl, hb9⟩; have B9 := B8.trans (hb9.mono B8.size); have a9 := a8.below hb9; have b9 := b8.below hb9; have T9 := T8.below hb9; have x9 := x8.below hb9; have y9 := y8.below hb9; have q9 := q8.below hb9; have r9 := r8.below hb9; have u9 := u8.below hb9; have p9 := p8.below hb9; have s9 := s8.below hb9; clear a8 b8 T8 x8 y8 q8 r8 u8 p8 s8)
              | (go_at_call 15; (with_reducible refine (HSm.out _ _ a9).mono ?_); rintro e w10 ⟨vk10, rfl, k10, hb10⟩; have B10 := B9.trans (hb10.mono B9.size); have a10 := a9.below hb10; have b10 := b9.below hb10; have T10 := T9.below hb10; have x10 := x9.below hb10; have y10 := y9.below hb10; have q10 := q9.below hb10; have r10 := r9.below hb10; have u10 := u9.below hb10; have p10 := p9.below hb10; have s10 := s9.below hb10; clear a9 b9 T9 x9 y9 q9 r9 u9 p9 s9; obtain ⟨ak10, kk10, rfl, -⟩ := k10.view; try simp only [List.length_nil] at k10)
              | fail)
          go_ret
          exact ⟨rfl, by assumption⟩
        · rw [if_neg hn0] at HSm
          have HRD2 := Lib.hid (fun w v u (h : RdD w v (digs DD A)) (k : RdD w u (digs DD n)) => HRD2.out w v u h k (Nat.pos_of_ne_zero hn0))
          have HOf := Lib.hid (fun w => of_num (w := w) (n := A % n) (Nat.lt_trans (Nat.mod_lt _ (Nat.pos_of_ne_zero hn0)) hn))
          go_enter Tryd.func3, Tryd.ntmps3
          go_wp2_with
            (first
              | (go_at_call 7; (with_reducible refine (alive3_any HT).mono ?_); rintro e w1 ⟨rfl, hb1⟩; have B1 := hb1; have a1 := RL.below hb1; have b1 := RM.below hb1; have T1 := HT.below hb1; clear RL RM HT)
              | (go_at_call 8; (with_reducible refine (HX.out _ _ a1).mono ?_); rintro e w2 ⟨vx2, rfl, x2, hb2⟩; have B2 := B1.trans (hb2.mono B1.size); have a2 := a1.below hb2; have b2 := b1.below hb2; have T2 := T1.below hb2; clear a1 b1 T1)
              | (go_at_call 8; (with_reducible refine (HY.out _ _ b2).mono ?_); rintro e w3 ⟨vy3, rfl, y3, hb3⟩; have B3 := B2.trans (hb3.mono B2.size); have a3 := a2.below hb3; have b3 := b2.below hb3; have T3 := T2.below hb3; have x3 := x2.below hb3; clear a2 b2 T2 x2; obtain ⟨ay3, ky3, rfl, -⟩ := y3.view; try simp only [List.length_nil] at y3)
              | (go_at_call 9; (with_reducible refine (HD.out _ _ _ a3 b3 T3).mono ?_); rintro e w4 ⟨vq4, vr4, rfl, q4, r4, hb4⟩; have B4 := B3.trans (hb4.mono B3.size); have a4 := a3.below hb4; have b4 := b3.below hb4; have T4 := T3.below hb4; have x4 := x3.below hb4; have y4 := y3.below hb4; clear a3 b3 T3 x3 y3)
              | (go_at_call 10; (with_reducible refine (HU.out _ _ _ a4 b4 T4).mono ?_); rintro e w5 ⟨vu5, rfl, u5, hb5⟩; have B5 := B4.trans (hb5.mono B4.size); have a5 := a4.below hb5; have b5 := b4.below hb5; have T5 := T4.below hb5; have x5 := x4.below hb5; have y5 := y4.below hb5; have q5 := q4.below hb5; have r5 := r4.below hb5; clear a4 b4 T4 x4 y4 q4 r4)
              | (go_at_call 11; (with_reducible refine (HRD.out _ _ _ x5 y5).mono ?_); rintro e w6 ⟨vp, vs, rfl, p6, s6, hb6⟩; have B6 := B5.trans (hb6.mono B5.size); have a6 := a5.below hb6; have b6 := b5.below hb6; have T6 := T5.below hb6; have x6 := x5.below hb6; have y6 := y5.below hb6; have q6 := q5.below hb6; have r6 := r5.below hb6; have u6 := u5.below hb6; clear a5 b5 T5 x5 y5 q5 r5 u5; obtain ⟨as6, ks6, rfl, -⟩ := s6.view; try simp only [List.length_nil] at s6)
              | (go_at_call 14; (with_reducible refine (same3_true q6 p6 lQ).mono ?_); rintro e w7 ⟨rfl, hb7⟩; have B7 := B6.trans (hb7.mono B6.size); have a7 := a6.below hb7; have b7 := b6.below hb7; have T7 := T6.below hb7; have x7 := x6.below hb7; have y7 := y6.below hb7; have q7 := q6.below hb7; have r7 := r6.below hb7; have u7 := u6.below hb7; have p7 := p6.below hb7; have s7 := s6.below hb7; clear a6 b6 T6 x6 y6 q6 r6 u6 p6 s6)
              | (go_at_call 14; (with_reducible refine (same3_nil r7 s7).mono ?_); rintro e w8 ⟨rfl, hb8⟩; have B8 := B7.trans (hb8.mono B7.size); have a8 := a7.below hb8; have b8 := b7.below hb8; have T8 := T7.below hb8; have x8 := x7.below hb8; have y8 := y7.below hb8; have q8 := q7.below hb8; have r8 := r7.below hb8; have u8 := u7.below hb8; have p8 := p7.below hb8; have s8 := s7.below hb8; clear a7 b7 T7 x7 y7 q7 r7 u7 p7 s7)
              | (go_at_call 14; (with_reducible refine (same3_true u8 p8 lQ).mono ?_); rintro e w9 ⟨rfl, hb9⟩; have B9 := B8.trans (hb9.mono B8.size); have a9 := a8.below hb9; have b9 := b8.below hb9; have T9 := T8.below hb9; have x9 := x8.below hb9; have y9 := y8.below hb9; have q9 := q8.below hb9; have r9 := r8.below hb9; have u9 := u8.below hb9; have p9 := p8.below hb9; have s9 := s8.below hb9; clear a8 b8 T8 x8 y8 q8 r8 u8 p8 s8)
              | (go_at_call 15; (with_reducible refine (HSm.out _ _ a9).mono ?_); rintro e w10 ⟨vk10, rfl, k10, hb10⟩; have B10 := B9.trans (hb10.mono B9.size); have a10 := a9.below hb10; have b10 := b9.below hb10; have T10 := T9.below hb10; have x10 := x9.below hb10; have y10 := y9.below hb10; have q10 := q9.below hb10; have r10 := r9.below hb10; have u10 := u9.below hb10; have p10 := p9.below hb10; have s10 := s9.below hb10; clear a9 b9 T9 x9 y9 q9 r9 u9 p9 s9; obtain ⟨ak10, kk10, rfl, -⟩ := k10.view; try simp only [List.length_nil] at k10)
              | (go_at_call 13; (with_reducible refine (HNn.out _).mono ?_); rintro e w11 ⟨vnn11, rfl, nn11, hb11⟩; have B11 := B10.trans (hb11.mono B10.size); have a11 := a10.below hb11; have b11 := b10.below hb11; have T11 := T10.below hb11; have x11 := x10.below hb11; have y11 := y10.below hb11; have q11 := q10.below hb11; have r11 := r10.below hb11; have u11 := u10.below hb11; have p11 := p10.below hb11; have s11 := s10.below hb11; have k11 := k10.below hb11; clear a10 b10 T10 x10 y10 q10 r10 u10 p10 s10 k10)
              | (go_at_call 11; (with_reducible refine (HRD2.out _ _ _ x11 nn11).mono ?_); rintro e w12 ⟨vp212, vs212, rfl, p212, s212, hb12⟩; have B12 := B11.trans (hb12.mono B11.size); have a12 := a11.below hb12; have b12 := b11.below hb12; have T12 := T11.below hb12; have x12 := x11.below hb12; have y12 := y11.below hb12; have q12 := q11.below hb12; have r12 := r11.below hb12; have u12 := u11.below hb12; have p12 := p11.below hb12; have s12 := s11.below hb12; have k12 := k11.below hb12; have nn12 := nn11.below hb12; clear a11 b11 T11 x11 y11 q11 r11 u11 p11 s11 k11 nn11)
              | (go_at_call 14; (with_reducible refine (same3_true k12 p212 lQ2).mono ?_); rintro e w13 ⟨rfl, hb13⟩; have B13 := B12.trans (hb13.mono B12.size); have a13 := a12.below hb13; have b13 := b12.below hb13; have T13 := T12.below hb13; have x13 := x12.below hb13; have y13 := y12.below hb13; have q13 := q12.below hb13; have r13 := r12.below hb13; have u13 := u12.below hb13; have p13 := p12.below hb13; have s13 := s12.below hb13; have k13 := k12.below hb13; have nn13 := nn12.below hb13; have p213 := p212.below hb13; have s213 := s212.below hb13; clear a12 b12 T12 x12 y12 q12 r12 u12 p12 s12 k12 nn12 p212 s212)
              | (go_at_call 16; (with_reducible refine (HOf.out _).mono ?_); rintro e w14 ⟨vol14, rfl, ol14, hb14⟩; have B14 := B13.trans (hb14.mono B13.size); have a14 := a13.below hb14; have b14 := b13.below hb14; have T14 := T13.below hb14; have x14 := x13.below hb14; have y14 := y13.below hb14; have q14 := q13.below hb14; have r14 := r13.below hb14; have u14 := u13.below hb14; have p14 := p13.below hb14; have s14 := s13.below hb14; have k14 := k13.below hb14; have nn14 := nn13.below hb14; have p214 := p213.below hb14; have s214 := s213.below hb14; clear a13 b13 T13 x13 y13 q13 r13 u13 p13 s13 k13 nn13 p213 s213)
              | (go_at_call 14; (with_reducible refine (same3_true ol14 s214 lR2).mono ?_); rintro e w15 ⟨rfl, hb15⟩; have B15 := B14.trans (hb15.mono B14.size); have a15 := a14.below hb15; have b15 := b14.below hb15; have T15 := T14.below hb15; have x15 := x14.below hb15; have y15 := y14.below hb15; have q15 := q14.below hb15; have r15 := r14.below hb15; have u15 := u14.below hb15; have p15 := p14.below hb15; have s15 := s14.below hb15; have k15 := k14.below hb15; have nn15 := nn14.below hb15; have p215 := p214.below hb15; have s215 := s214.below hb15; have ol15 := ol14.below hb15; clear a14 b14 T14 x14 y14 q14 r14 u14 p14 s14 k14 nn14 p214 s214 ol14)
              | fail)
          go_ret
          exact ⟨rfl, by assumption⟩
      · rw [if_neg hs] at HU
        have hsl : 0 < (digs DD (A % B)).length := List.length_pos_iff.2 (fun e => hs ((digs_nil_iff DD_two _).1 e))
        by_cases hn0 : n = 0
        · subst hn0
          rw [if_pos rfl, digs_zero] at HSm
          have HSm := Lib.hid (fun w v h => show Calls Tryd.prog 15 #[v, .int .u64 0] w _ from HSm.out w v h)
          simp only at HSm
          clear HRD2 lQ2 lR2
          go_enter Tryd.func3, Tryd.ntmps3
          go_wp2_with
            (first
              | (go_at_call 7; (with_reducible refine (alive3_any HT).mono ?_); rintro e w1 ⟨rfl, hb1⟩; have B1 := hb1; have a1 := RL.below hb1; have b1 := RM.below hb1; have T1 := HT.below hb1; clear RL RM HT)
              | (go_at_call 8; (with_reducible refine (HX.out _ _ a1).mono ?_); rintro e w2 ⟨vx2, rfl, x2, hb2⟩; have B2 := B1.trans (hb2.mono B1.size); have a2 := a1.below hb2; have b2 := b1.below hb2; have T2 := T1.below hb2; clear a1 b1 T1)
              | (go_at_call 8; (with_reducible refine (HY.out _ _ b2).mono ?_); rintro e w3 ⟨vy3, rfl, y3, hb3⟩; have B3 := B2.trans (hb3.mono B2.size); have a3 := a2.below hb3; have b3 := b2.below hb3; have T3 := T2.below hb3; have x3 := x2.below hb3; clear a2 b2 T2 x2; obtain ⟨ay3, ky3, rfl, -⟩ := y3.view; try simp only [List.length_nil] at y3)
              | (go_at_call 9; (with_reducible refine (HD.out _ _ _ a3 b3 T3).mono ?_); rintro e w4 ⟨vq4, vr4, rfl, q4, r4, hb4⟩; have B4 := B3.trans (hb4.mono B3.size); have a4 := a3.below hb4; have b4 := b3.below hb4; have T4 := T3.below hb4; have x4 := x3.below hb4; have y4 := y3.below hb4; clear a3 b3 T3 x3 y3)
              | (go_at_call 10; (with_reducible refine (HU.out _ _ _ a4 b4 T4).mono ?_); rintro e w5 ⟨vu5, rfl, u5, hb5⟩; have B5 := B4.trans (hb5.mono B4.size); have a5 := a4.below hb5; have b5 := b4.below hb5; have T5 := T4.below hb5; have x5 := x4.below hb5; have y5 := y4.below hb5; have q5 := q4.below hb5; have r5 := r4.below hb5; clear a4 b4 T4 x4 y4 q4 r4)
              | (go_at_call 11; (with_reducible refine (HRD.out _ _ _ x5 y5).mono ?_); rintro e w6 ⟨vp, vs, rfl, p6, s6, hb6⟩; have B6 := B5.trans (hb6.mono B5.size); have a6 := a5.below hb6; have b6 := b5.below hb6; have T6 := T5.below hb6; have x6 := x5.below hb6; have y6 := y5.below hb6; have q6 := q5.below hb6; have r6 := r5.below hb6; have u6 := u5.below hb6; clear a5 b5 T5 x5 y5 q5 r5 u5; obtain ⟨as6, ks6, rfl, -⟩ := s6.view; try simp only [List.length_nil] at s6)
              | (go_at_call 13; (with_reducible refine (HN1.out _).mono ?_); rintro e w7 ⟨vo7, rfl, o7, hb7⟩; have B7 := B6.trans (hb7.mono B6.size); have a7 := a6.below hb7; have b7 := b6.below hb7; have T7 := T6.below hb7; have x7 := x6.below hb7; have y7 := y6.below hb7; have q7 := q6.below hb7; have r7 := r6.below hb7; have u7 := u6.below hb7; have p7 := p6.below hb7; have s7 := s6.below hb7; clear a6 b6 T6 x6 y6 q6 r6 u6 p6 s6)
              | (go_at_call 12; (with_reducible refine (HAd.out _ _ _ p7 o7).mono ?_); rintro e w8 ⟨vup8, rfl, up8, hb8⟩; have B8 := B7.trans (hb8.mono B7.size); have a8 := a7.below hb8; have b8 := b7.below hb8; have T8 := T7.below hb8; have x8 := x7.below hb8; have y8 := y7.below hb8; have q8 := q7.below hb8; have r8 := r7.below hb8; have u8 := u7.below hb8; have p8 := p7.below hb8; have s8 := s7.below hb8; have o8 := o7.below hb8; clear a7 b7 T7 x7 y7 q7 r7 u7 p7 s7 o7)
              | (go_at_call 14; (with_reducible refine (same3_true q8 p8 lQ).mono ?_); rintro e w9 ⟨rfl, hb9⟩; have B9 := B8.trans (hb9.mono B8.size); have a9 := a8.below hb9; have b9 := b8.below hb9; have T9 := T8.below hb9; have x9 := x8.below hb9; have y9 := y8.below hb9; have q9 := q8.below hb9; have r9 := r8.below hb9; have u9 := u8.below hb9; have p9 := p8.below hb9; have s9 := s8.below hb9; have o9 := o8.below hb9; have up9 := up8.below hb9; clear a8 b8 T8 x8 y8 q8 r8 u8 p8 s8 o8 up8)
              | (go_at_call 14; (with_reducible refine (same3_true r9 s9 lR).mono ?_); rintro e w10 ⟨rfl, hb10⟩; have B10 := B9.trans (hb10.mono B9.size); have a10 := a9.below hb10; have b10 := b9.below hb10; have T10 := T9.below hb10; have x10 := x9.below hb10; have y10 := y9.below hb10; have q10 := q9.below hb10; have r10 := r9.below hb10; have u10 := u9.below hb10; have p10 := p9.below hb10; have s10 := s9.below hb10; have o10 := o9.below hb10; have up10 := up9.below hb10; clear a9 b9 T9 x9 y9 q9 r9 u9 p9 s9 o9 up9)
              | (go_at_call 14; (with_reducible refine (same3_true u10 up10 lU).mono ?_); rintro e w11 ⟨rfl, hb11⟩; have B11 := B10.trans (hb11.mono B10.size); have a11 := a10.below hb11; have b11 := b10.below hb11; have T11 := T10.below hb11; have x11 := x10.below hb11; have y11 := y10.below hb11; have q11 := q10.below hb11; have r11 := r10.below hb11; have u11 := u10.below hb11; have p11 := p10.below hb11; have s11 := s10.below hb11; have o11 := o10.below hb11; have up11 := up10.below hb11; clear a10 b10 T10 x10 y10 q10 r10 u10 p10 s10 o10 up10)
              | (go_at_call 15; (with_reducible refine (HSm.out _ _ a11).mono ?_); rintro e w12 ⟨vk12, rfl, k12, hb12⟩; have B12 := B11.trans (hb12.mono B11.size); have a12 := a11.below hb12; have b12 := b11.below hb12; have T12 := T11.below hb12; have x12 := x11.below hb12; have y12 := y11.below hb12; have q12 := q11.below hb12; have r12 := r11.below hb12; have u12 := u11.below hb12; have p12 := p11.below hb12; have s12 := s11.below hb12; have o12 := o11.below hb12; have up12 := up11.below hb12; clear a11 b11 T11 x11 y11 q11 r11 u11 p11 s11 o11 up11; obtain ⟨ak12, kk12, rfl, -⟩ := k12.view; try simp only [List.length_nil] at k12)
              | fail)
          go_ret
          exact ⟨rfl, by assumption⟩
        · rw [if_neg hn0] at HSm
          have HRD2 := Lib.hid (fun w v u (h : RdD w v (digs DD A)) (k : RdD w u (digs DD n)) => HRD2.out w v u h k (Nat.pos_of_ne_zero hn0))
          have HOf := Lib.hid (fun w => of_num (w := w) (n := A % n) (Nat.lt_trans (Nat.mod_lt _ (Nat.pos_of_ne_zero hn0)) hn))
          go_enter Tryd.func3, Tryd.ntmps3
          go_wp2_with
            (first
              | (go_at_call 7; (with_reducible refine (alive3_any HT).mono ?_); rintro e w1 ⟨rfl, hb1⟩; have B1 := hb1; have a1 := RL.below hb1; have b1 := RM.below hb1; have T1 := HT.below hb1; clear RL RM HT)
              | (go_at_call 8; (with_reducible refine (HX.out _ _ a1).mono ?_); rintro e w2 ⟨vx2, rfl, x2, hb2⟩; have B2 := B1.trans (hb2.mono B1.size); have a2 := a1.below hb2; have b2 := b1.below hb2; have T2 := T1.below hb2; clear a1 b1 T1)
              | (go_at_call 8; (with_reducible refine (HY.out _ _ b2).mono ?_); rintro e w3 ⟨vy3, rfl, y3, hb3⟩; have B3 := B2.trans (hb3.mono B2.size); have a3 := a2.below hb3; have b3 := b2.below hb3; have T3 := T2.below hb3; have x3 := x2.below hb3; clear a2 b2 T2 x2; obtain ⟨ay3, ky3, rfl, -⟩ := y3.view; try simp only [List.length_nil] at y3)
              | (go_at_call 9; (with_reducible refine (HD.out _ _ _ a3 b3 T3).mono ?_); rintro e w4 ⟨vq4, vr4, rfl, q4, r4, hb4⟩; have B4 := B3.trans (hb4.mono B3.size); have a4 := a3.below hb4; have b4 := b3.below hb4; have T4 := T3.below hb4; have x4 := x3.below hb4; have y4 := y3.below hb4; clear a3 b3 T3 x3 y3)
              | (go_at_call 10; (with_reducible refine (HU.out _ _ _ a4 b4 T4).mono ?_); rintro e w5 ⟨vu5, rfl, u5, hb5⟩; have B5 := B4.trans (hb5.mono B4.size); have a5 := a4.below hb5; have b5 := b4.below hb5; have T5 := T4.below hb5; have x5 := x4.below hb5; have y5 := y4.below hb5; have q5 := q4.below hb5; have r5 := r4.below hb5; clear a4 b4 T4 x4 y4 q4 r4)
              | (go_at_call 11; (with_reducible refine (HRD.out _ _ _ x5 y5).mono ?_); rintro e w6 ⟨vp, vs, rfl, p6, s6, hb6⟩; have B6 := B5.trans (hb6.mono B5.size); have a6 := a5.below hb6; have b6 := b5.below hb6; have T6 := T5.below hb6; have x6 := x5.below hb6; have y6 := y5.below hb6; have q6 := q5.below hb6; have r6 := r5.below hb6; have u6 := u5.below hb6; clear a5 b5 T5 x5 y5 q5 r5 u5; obtain ⟨as6, ks6, rfl, -⟩ := s6.view; try simp only [List.length_nil] at s6)
              | (go_at_call 13; (with_reducible refine (HN1.out _).mono ?_); rintro e w7 ⟨vo7, rfl, o7, hb7⟩; have B7 := B6.trans (hb7.mono B6.size); have a7 := a6.below hb7; have b7 := b6.below hb7; have T7 := T6.below hb7; have x7 := x6.below hb7; have y7 := y6.below hb7; have q7 := q6.below hb7; have r7 := r6.below hb7; have u7 := u6.below hb7; have p7 := p6.below hb7; have s7 := s6.below hb7; clear a6 b6 T6 x6 y6 q6 r6 u6 p6 s6)
              | (go_at_call 12; (with_reducible refine (HAd.out _ _ _ p7 o7).mono ?_); rintro e w8 ⟨vup8, rfl, up8, hb8⟩; have B8 := B7.trans (hb8.mono B7.size); have a8 := a7.below hb8; have b8 := b7.below hb8; have T8 := T7.below hb8; have x8 := x7.below hb8; have y8 := y7.below hb8; have q8 := q7.below hb8; have r8 := r7.below hb8; have u8 := u7.below hb8; have p8 := p7.below hb8; have s8 := s7.below hb8; have o8 := o7.below hb8; clear a7 b7 T7 x7 y7 q7 r7 u7 p7 s7 o7)
              | (go_at_call 14; (with_reducible refine (same3_true q8 p8 lQ).mono ?_); rintro e w9 ⟨rfl, hb9⟩; have B9 := B8.trans (hb9.mono B8.size); have a9 := a8.below hb9; have b9 := b8.below hb9; have T9 := T8.below hb9; have x9 := x8.below hb9; have y9 := y8.below hb9; have q9 := q8.below hb9; have r9 := r8.below hb9; have u9 := u8.below hb9; have p9 := p8.below hb9; have s9 := s8.below hb9; have o9 := o8.below hb9; have up9 := up8.below hb9; clear a8 b8 T8 x8 y8 q8 r8 u8 p8 s8 o8 up8)
              | (go_at_call 14; (with_reducible refine (same3_true r9 s9 lR).mono ?_); rintro e w10 ⟨rfl, hb10⟩; have B10 := B9.trans (hb10.mono B9.size); have a10 := a9.below hb10; have b10 := b9.below hb10; have T10 := T9.below hb10; have x10 := x9.below hb10; have y10 := y9.below hb10; have q10 := q9.below hb10; have r10 := r9.below hb10; have u10 := u9.below hb10; have p10 := p9.below hb10; have s10 := s9.below hb10; have o10 := o9.below hb10; have up10 := up9.below hb10; clear a9 b9 T9 x9 y9 q9 r9 u9 p9 s9 o9 up9)
              | (go_at_call 14; (with_reducible refine (same3_true u10 up10 lU).mono ?_); rintro e w11 ⟨rfl, hb11⟩; have B11 := B10.trans (hb11.mono B10.size); have a11 := a10.below hb11; have b11 := b10.below hb11; have T11 := T10.below hb11; have x11 := x10.below hb11; have y11 := y10.below hb11; have q11 := q10.below hb11; have r11 := r10.below hb11; have u11 := u10.below hb11; have p11 := p10.below hb11; have s11 := s10.below hb11; have o11 := o10.below hb11; have up11 := up10.below hb11; clear a10 b10 T10 x10 y10 q10 r10 u10 p10 s10 o10 up10)
              | (go_at_call 15; (with_reducible refine (HSm.out _ _ a11).mono ?_); rintro e w12 ⟨vk12, rfl, k12, hb12⟩; have B12 := B11.trans (hb12.mono B11.size); have a12 := a11.below hb12; have b12 := b11.below hb12; have T12 := T11.below hb12; have x12 := x11.below hb12; have y12 := y11.below hb12; have q12 := q11.below hb12; have r12 := r11.below hb12; have u12 := u11.below hb12; have p12 := p11.below hb12; have s12 := s11.below hb12; have o12 := o11.below hb12; have up12 := up11.below hb12; clear a11 b11 T11 x11 y11 q11 r11 u11 p11 s11 o11 up11; obtain ⟨ak12, kk12, rfl, -⟩ := k12.view; try simp only [List.length_nil] at k12)
              | (go_at_call 13; (with_reducible refine (HNn.out _).mono ?_); rintro e w13 ⟨vnn13, rfl, nn13, hb13⟩; have B13 := B12.trans (hb13.mono B12.size); have a13 := a12.below hb13; have b13 := b12.below hb13; have T13 := T12.below hb13; have x13 := x12.below hb13; have y13 := y12.below hb13; have q13 := q12.below hb13; have r13 := r12.below hb13; have u13 := u12.below hb13; have p13 := p12.below hb13; have s13 := s12.below hb13; have o13 := o12.below hb13; have up13 := up12.below hb13; have k13 := k12.below hb13; clear a12 b12 T12 x12 y12 q12 r12 u12 p12 s12 o12 up12 k12)
              | (go_at_call 11; (with_reducible refine (HRD2.out _ _ _ x13 nn13).mono ?_); rintro e w14 ⟨vp214, vs214, rfl, p214, s214, hb14⟩; have B14 := B13.trans (hb14.mono B13.size); have a14 := a13.below hb14; have b14 := b13.below hb14; have T14 := T13.below hb14; have x14 := x13.below hb14; have y14 := y13.below hb14; have q14 := q13.below hb14; have r14 := r13.below hb14; have u14 := u13.below hb14; have p14 := p13.below hb14; have s14 := s13.below hb14; have o14 := o13.below hb14; have up14 := up13.below hb14; have k14 := k13.below hb14; have nn14 := nn13.below hb14; clear a13 b13 T13 x13 y13 q13 r13 u13 p13 s13 o13 up13 k13 nn13)
              | (go_at_call 14; (with_reducible refine (same3_true k14 p214 lQ2).mono ?_); rintro e w15 ⟨rfl, hb15⟩; have B15 := B14.trans (hb15.mono B14.size); have a15 := a14.below hb15; have b15 := b14.below hb15; have T15 := T14.below hb15; have x15 := x14.below hb15; have y15 := y14.below hb15; have q15 := q14.below hb15; have r15 := r14.below hb15; have u15 := u14.below hb15; have p15 := p14.below hb15; have s15 := s14.below hb15; have o15 := o14.below hb15; have up15 := up14.below hb15; have k15 := k14.below hb15; have nn15 := nn14.below hb15; have p215 := p214.below hb15; have s215 := s214.below hb15; clear a14 b14 T14 x14 y14 q14 r14 u14 p14 s14 o14 up14 k14 nn14 p214 s214)
              | (go_at_call 16; (with_reducible refine (HOf.out _).mono ?_); rintro e w16 ⟨vol16, rfl, ol16, hb16⟩; have B16 := B15.trans (hb16.mono B15.size); have a16 := a15.below hb16; have b16 := b15.below hb16; have T16 := T15.below hb16; have x16 := x15.below hb16; have y16 := y15.below hb16; have q16 := q15.below hb16; have r16 := r15.below hb16; have u16 := u15.below hb16; have p16 := p15.below hb16; have s16 := s15.below hb16; have o16 := o15.below hb16; have up16 := up15.below hb16; have k16 := k15.below hb16; have nn16 := nn15.below hb16; have p216 := p215.below hb16; have s216 := s215.below hb16; clear a15 b15 T15 x15 y15 q15 r15 u15 p15 s15 o15 up15 k15 nn15 p215 s215)
              | (go_at_call 14; (with_reducible refine (same3_true ol16 s216 lR2).mono ?_); rintro e w17 ⟨rfl, hb17⟩; have B17 := B16.trans (hb17.mono B16.size); have a17 := a16.below hb17; have b17 := b16.below hb17; have T17 := T16.below hb17; have x17 := x16.below hb17; have y17 := y16.below hb17; have q17 := q16.below hb17; have r17 := r16.below hb17; have u17 := u16.below hb17; have p17 := p16.below hb17; have s17 := s16.below hb17; have o17 := o16.below hb17; have up17 := up16.below hb17; have k17 := k16.below hb17; have nn17 := nn16.below hb17; have p217 := p216.below hb17; have s217 := s216.below hb17; have ol17 := ol16.below hb17; clear a16 b16 T16 x16 y16 q16 r16 u16 p16 s16 o16 up16 k16 nn16 p216 s216 ol16)
              | fail)
          go_ret
          exact ⟨rfl, by assumption⟩
end Go.Proofs.YtmocoipenaodaaaDoor.PDivs
