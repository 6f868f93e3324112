/- SeriesAdds returns true and leaves what was there: the walk. Conditions: math/bits' table stands in its variable. -/
import Derived.Test.YtecgimdgmilcbaaDoorSer10
import Derived.Test.YtecgimdgmilcbaaDoorSerLaw2
import Derived.Lib.MinMax
namespace Go.Proofs.YtecgimdgmilcbaaDoor.SAdds
set_option maxRecDepth 100000
open Go.RowKit Go.Proofs.YtecgimdgmilcbaaDoor
set_option linter.unusedVariables false

theorem lit_num {w : World} {T : TypeId} {n : Nat} (h : n < BB) : Num (w.alloc (.cells #[.int .u64 (n : Int)] T (0, 0))) (.slice (some ⟨w.heap.size, 0, none⟩) 1 1) n := by
  have h1 : RdN (w.alloc (.cells #[.int .u64 (n : Int)] T (0, 0))) (.slice (some ⟨w.heap.size, 0, none⟩) 1 1) [n] := rd_one (heap_alloc_new _ _) trivial
  exact RdN.num1 h1 h

theorem lit_den {w : World} {T : TypeId} : Num (w.alloc (.cells #[.int .u64 12884901888] T (0, 0))) (.slice (some ⟨w.heap.size, 0, none⟩) 1 1) 12884901888 := lit_num (n := 12884901888) (by decide)

set_option maxRecDepth 100000 in
set_option maxHeartbeats 4000000 in
theorem walk (a0 a1 a2 : Int) (w : World) (w0 : (Lit.int .u32 a0).wf = true) (w1 : (Lit.int .u32 a1).wf = true) (w2 : (Lit.int .u8 a2).wf = true) (hT : Tab w) :
    Calls Tryd.prog 4 #[.int .u32 a0, .int .u32 a1, .int .u8 a2] w fun e w' => e = .returned (.bool true) ∧ Below w.heap.size w w' := by
  have h0 : 0 ≤ a0 ∧ a0 ≤ 4294967295 := by simpa [Lit.wf, IntKind.min, IntKind.max, IntKind.bits, IntKind.signed] using w0
  have h1 : 0 ≤ a1 ∧ a1 ≤ 4294967295 := by simpa [Lit.wf, IntKind.min, IntKind.max, IntKind.bits, IntKind.signed] using w1
  have h2 : 0 ≤ a2 ∧ a2 ≤ 255 := by simpa [Lit.wf, IntKind.min, IntKind.max, IntKind.bits, IntKind.signed] using w2
  clear w0 w1 w2
  obtain ⟨A, rfl⟩ := Int.eq_ofNat_of_zero_le h0.1
  obtain ⟨B, rfl⟩ := Int.eq_ofNat_of_zero_le h1.1
  obtain ⟨s, rfl⟩ := Int.eq_ofNat_of_zero_le h2.1
  obtain ⟨r, hr⟩ : ∃ r, 6 + s = r := ⟨_, rfl⟩
  obtain ⟨z, hz⟩ : ∃ z, 40 + s = z := ⟨_, rfl⟩
  have z1 : 8 ≤ z := by omega
  have z2 : z ≤ 9000 := by omega
  have aB : A < BB := by rw [show BB = 18446744073709551616 from rfl]; omega
  have bB : B < BB := by rw [show BB = 18446744073709551616 from rfl]; omega
  have sA : bitN A ≤ 32 := bitN_le.2 (by omega)
  have sB : bitN B ≤ 32 := bitN_le.2 (by omega)
  obtain ⟨X, hX⟩ : ∃ X, A * 2 ^ r = X := ⟨_, rfl⟩
  obtain ⟨Y, hY⟩ : ∃ Y, B * 2 ^ r = Y := ⟨_, rfl⟩
  have hXY : X + Y ≤ 2 ^ z := by
    have e : 2 ^ z = 2 ^ 34 * 2 ^ r := by rw [← Nat.pow_add]; congr 1; omega
    rw [← hX, ← hY, ← Nat.add_mul, e]
    exact Nat.mul_le_mul_right _ (by omega)
  have sX : bitN X ≤ 1000 := by rw [← hX]; exact Nat.le_trans (bitN_shl _ _) (by omega)
  have sY : bitN Y ≤ 1000 := by rw [← hY]; exact Nat.le_trans (bitN_shl _ _) (by omega)
  obtain ⟨C, hC⟩ : ∃ C, X + Y = C := ⟨_, rfl⟩
  have sC : bitN C ≤ 3000 := by rw [← hC]; exact Nat.le_trans (bitN_add_le _ _) (by omega)
  have HX : Hid (∀ w v, Num w v A → Calls Tryd.prog 17 #[v, .int .i64 (r : Int)] w (OneZ w X)) := Lib.hid (fun w v h => shl_n (n := r) h hX (by omega))
  have HY : Hid (∀ w v, Num w v B → Calls Tryd.prog 17 #[v, .int .i64 (r : Int)] w (OneZ w Y)) := Lib.hid (fun w v h => shl_n (n := r) h hY (by omega))
  have HEX := Lib.hid (fun (w : World) (v : Value) (h : Num w v X) (hT : Tab w) => Exp_ok h h hT z1 z2 (Nat.le_refl _) (show X ≤ 2 ^ z by omega))
  have HEY := Lib.hid (fun (w : World) (v : Value) (h : Num w v Y) (hT : Tab w) => Exp_ok h h hT z1 z2 (Nat.le_refl _) (show Y ≤ 2 ^ z by omega))
  have HEC := Lib.hid (fun (w : World) (v : Value) (h : Num w v C) (hT : Tab w) => Exp_ok h h hT z1 z2 (Nat.le_refl _) (show C ≤ 2 ^ z by omega))
  have KX := Lib.hid (fun L H (h : ExOk X X z L H) => h.size z2)
  have KY := Lib.hid (fun L H (h : ExOk Y Y z L H) => h.size z2)
  have KC := Lib.hid (fun L H (h : ExOk C C z L H) => h.size z2)
  have KK : Hid (∀ L1 H1 L2 H2 L3 H3, ExOk X X z L1 H1 → ExOk Y Y z L2 H2 → ExOk C C z L3 H3 → L1 * L2 ≤ H3 * 2 ^ z ∧ L3 * 2 ^ z ≤ H1 * H2) := Lib.hid (fun L1 H1 L2 H2 L3 H3 o1 o2 o3 => adds_exp o1 o2 (by rw [hC]; exact o3) hXY)
  have EC := Lib.hid hC
  obtain ⟨mn, hmn⟩ : ∃ m, min A B = m := ⟨_, rfl⟩
  obtain ⟨mx, hmx⟩ : ∃ m, max A B = m := ⟨_, rfl⟩
  have hle : mn ≤ mx := by rw [← hmn, ← hmx]; exact Nat.le_trans (Nat.min_le_left _ _) (Nat.le_max_left _ _)
  have hx4 : mx ≤ 4294967295 := by rw [← hmx]; exact Nat.max_le.2 ⟨by omega, by omega⟩
  have imn : min (A : Int) (B : Int) = (mn : Int) := by rw [← hmn]; omega
  have imx : max (A : Int) (B : Int) = (mx : Int) := by rw [← hmx]; omega
  have mB : mn < BB := by rw [show BB = 18446744073709551616 from rfl]; omega
  have xB : mx < BB := by rw [show BB = 18446744073709551616 from rfl]; omega
  have sm : bitN mn ≤ 32 := bitN_le.2 (by omega)
  have sx : bitN mx ≤ 32 := bitN_le.2 (by omega)
  have dB : 12884901888 < BB := by rw [show BB = 18446744073709551616 from rfl]; omega
  have sD : bitN 12884901888 ≤ 34 := bitN_le.2 (by decide)
  have HMN := Lib.hid (fun (w : World) (v u : Value) (h : Num w v mn) (k : Num w u 12884901888) (hT : Tab w) => Atanh_any h k hT z1 z2 (by omega) (by omega) (by omega) (show 3 * mn ≤ 12884901888 by omega))
  have HMX := Lib.hid (fun (w : World) (v u : Value) (h : Num w v mx) (k : Num w u 12884901888) (hT : Tab w) => Atanh_any h k hT z1 z2 (by omega) (by omega) (by omega) (show 3 * mx ≤ 12884901888 by omega))
  have KN := Lib.hid (fun L H (h : AtOk mn 12884901888 z L H) => h.bits z1 z2)
  have KM := Lib.hid (fun L H (h : AtOk mx 12884901888 z L H) => h.bits z1 z2)
  have KL : Hid (∀ L H L' H', AtOk mn 12884901888 z L H → AtOk mx 12884901888 z L' H' → L ≤ H') := Lib.hid (fun L H L' H' o o' => at_mono o o' hle (by omega) (by omega))
  have v0 : IntKind.u64.wrap (A : Int) = (A : Int) := by rw [IntKind.wrap_u64]; omega
  have v1 : IntKind.u64.wrap (B : Int) = (B : Int) := by rw [IntKind.wrap_u64]; omega
  have v2 : IntKind.i64.wrap (s : Int) = (s : Int) := by rw [IntKind.wrap_i64]; omega
  have v3 : IntKind.i64.wrap (40 + (s : Int)) = (z : Int) := by rw [IntKind.wrap_i64]; omega
  have v4 : IntKind.i64.wrap ((z : Int) - 34) = (r : Int) := by rw [IntKind.wrap_i64]; omega
  have v5 : IntKind.u64.wrap (mn : Int) = (mn : Int) := by rw [IntKind.wrap_u64]; omega
  have v6 : IntKind.u64.wrap (mx : Int) = (mx : Int) := by rw [IntKind.wrap_u64]; omega
  have HSZ : Hid (∀ w v H, bitN H ≤ 20000 → RdD w v (digs DD H) → Calls Tryd.prog 21 #[v, .int .i64 (z : Int)] w (OneD w (digs DD (H * 2 ^ z)))) := Lib.hid (fun w v H sH h => rshl_n (n := z) h (by omega))
  have HSb : Hid (∀ H, bitN H ≤ 20000 → bitN (H * 2 ^ z) ≤ 400000) := Lib.hid (fun H h => Nat.le_trans (bitN_shl _ _) (by omega))
  have HSm : Hid (∀ L H, bitN L ≤ 20000 → bitN H ≤ 20000 → bitN (L * H) ≤ 400000) := Lib.hid (fun L H h k => Nat.le_trans (bitN_mul_le _ _) (by omega))
  clear hX hY hC hXY hmn hmx hle hx4 hz hr h0 h1 h2
  go_enter Tryd.func4, Tryd.ntmps4
  go_upto_region 16 with
  (first
    | (go_at_call 7; (with_reducible refine (alive12_any hT).mono ?_); rintro e w1 ⟨rfl, hb1⟩; have B1 := hb1; have T1 := hT.below hb1; clear hT)
    | (go_at_call 17; (with_reducible refine (HX.out _ _ (RdN.num1 ?_ aB)).mono ?_); (exact rd_one (heap_alloc_new _ _) trivial); rintro e w2 ⟨vx2, rfl, x2, hb2⟩; have hb2' := (below_a hb2); have B2 := B1.trans (hb2'.mono B1.size); have T2 := T1.below hb2'; clear T1)
    | (go_at_call 17; (with_reducible refine (HY.out _ _ (RdN.num1 ?_ bB)).mono ?_); (exact rd_one (heap_alloc_new _ _) trivial); rintro e w3 ⟨vy3, rfl, y3, hb3⟩; have hb3' := (below_a hb3); have B3 := B2.trans (hb3'.mono B2.size); have T3 := T2.below hb3'; have x3 := x2.below hb3'; clear T2 x2)
    | (go_at_call 18; (with_reducible refine (HEX.out _ _ (x3.num (by omega)) T3).mono ?_); rintro e w4 ⟨vp, vq, L1, H1, rfl, p4, q4, o1, hb4⟩; have B4 := B3.trans (hb4.mono B3.size); have T4 := T3.below hb4; have x4 := x3.below hb4; have y4 := y3.below hb4; clear T3 x3 y3; obtain ⟨b1, b2⟩ := KX.out _ _ o1)
    | (go_at_call 18; (with_reducible refine (HEY.out _ _ (y4.num (by omega)) T4).mono ?_); rintro e w5 ⟨vu, vv, L2, H2, rfl, u5, v5, o2, hb5⟩; have B5 := B4.trans (hb5.mono B4.size); have T5 := T4.below hb5; have x5 := x4.below hb5; have y5 := y4.below hb5; have p5 := p4.below hb5; have q5 := q4.below hb5; clear T4 x4 y4 p4 q4; obtain ⟨b3, b4⟩ := KY.out _ _ o2)
    | (go_at_call 19; (with_reducible refine (add_n (x5.num (by omega)) (y5.num (by omega)) EC.out).mono ?_); rintro e w6 ⟨vc6, rfl, c6, hb6⟩; have B6 := B5.trans (hb6.mono B5.size); have T6 := T5.below hb6; have x6 := x5.below hb6; have y6 := y5.below hb6; have p6 := p5.below hb6; have q6 := q5.below hb6; have u6 := u5.below hb6; have v6 := v5.below hb6; clear T5 x5 y5 p5 q5 u5 v5)
    | (go_at_call 18; (with_reducible refine (HEC.out _ _ (c6.num (by omega)) T6).mono ?_); rintro e w7 ⟨vl, vh, L3, H3, rfl, l7, h7, o3, hb7⟩; have B7 := B6.trans (hb7.mono B6.size); have T7 := T6.below hb7; have x7 := x6.below hb7; have y7 := y6.below hb7; have p7 := p6.below hb7; have q7 := q6.below hb7; have u7 := u6.below hb7; have v7 := v6.below hb7; have c7 := c6.below hb7; clear T6 x6 y6 p6 q6 u6 v6 c6; obtain ⟨b5, b6⟩ := KC.out _ _ o3; obtain ⟨k1, k2⟩ := KK.out _ _ _ _ _ _ o1 o2 o3)
    | (go_at_call 9; (with_reducible refine (to_n (p7.num (by omega))).mono ?_); rintro e w8 ⟨vi8, rfl, i8, hb8⟩; have B8 := B7.trans (hb8.mono B7.size); have T8 := T7.below hb8; have x8 := x7.below hb8; have y8 := y7.below hb8; have p8 := p7.below hb8; have q8 := q7.below hb8; have u8 := u7.below hb8; have v8 := v7.below hb8; have c8 := c7.below hb8; have l8 := l7.below hb8; have h8 := h7.below hb8; clear T7 x7 y7 p7 q7 u7 v7 c7 l7 h7)
    | (go_at_call 9; (with_reducible refine (to_n (u8.num (by omega))).mono ?_); rintro e w9 ⟨vj9, rfl, j9, hb9⟩; have B9 := B8.trans (hb9.mono B8.size); have T9 := T8.below hb9; have x9 := x8.below hb9; have y9 := y8.below hb9; have p9 := p8.below hb9; have q9 := q8.below hb9; have u9 := u8.below hb9; have v9 := v8.below hb9; have c9 := c8.below hb9; have l9 := l8.below hb9; have h9 := h8.below hb9; have i9 := i8.below hb9; clear T8 x8 y8 p8 q8 u8 v8 c8 l8 h8 i8)
    | (go_at_call 20; (with_reducible refine (rmul_n i9 j9 rfl (by omega) (by omega)).mono ?_); rintro e w10 ⟨vk10, rfl, k10, hb10⟩; have B10 := B9.trans (hb10.mono B9.size); have T10 := T9.below hb10; have x10 := x9.below hb10; have y10 := y9.below hb10; have p10 := p9.below hb10; have q10 := q9.below hb10; have u10 := u9.below hb10; have v10 := v9.below hb10; have c10 := c9.below hb10; have l10 := l9.below hb10; have h10 := h9.below hb10; have i10 := i9.below hb10; have j10 := j9.below hb10; clear T9 x9 y9 p9 q9 u9 v9 c9 l9 h9 i9 j9)
    | (go_at_call 9; (with_reducible refine (to_n (q10.num (by omega))).mono ?_); rintro e w11 ⟨vm11, rfl, m11, hb11⟩; have B11 := B10.trans (hb11.mono B10.size); have T11 := T10.below hb11; have x11 := x10.below hb11; have y11 := y10.below hb11; have p11 := p10.below hb11; have q11 := q10.below hb11; have u11 := u10.below hb11; have v11 := v10.below hb11; have c11 := c10.below hb11; have l11 := l10.below hb11; have h11 := h10.below hb11; have i11 := i10.below hb11; have j11 := j10.below hb11; have k11 := k10.below hb11; clear T10 x10 y10 p10 q10 u10 v10 c10 l10 h10 i10 j10 k10)
    | (go_at_call 9; (with_reducible refine (to_n (v11.num (by omega))).mono ?_); rintro e w12 ⟨vn12, rfl, n12, hb12⟩; have B12 := B11.trans (hb12.mono B11.size); have T12 := T11.below hb12; have x12 := x11.below hb12; have y12 := y11.below hb12; have p12 := p11.below hb12; have q12 := q11.below hb12; have u12 := u11.below hb12; have v12 := v11.below hb12; have c12 := c11.below hb12; have l12 := l11.below hb12; have h12 := h11.below hb12; have i12 := i11.below hb12; have j12 := j11.below hb12; have k12 := k11.below hb12; have m12 := m11.below hb12; clear T11 x11 y11 p11 q11 u11 v11 c11 l11 h11 i11 j11 k11 m11)
    | (go_at_call 20; (with_reducible refine (rmul_n m12 n12 rfl (by omega) (by omega)).mono ?_); rintro e w13 ⟨vo13, rfl, o13, hb13⟩; have B13 := B12.trans (hb13.mono B12.size); have T13 := T12.below hb13; have x13 := x12.below hb13; have y13 := y12.below hb13; have p13 := p12.below hb13; have q13 := q12.below hb13; have u13 := u12.below hb13; have v13 := v12.below hb13; have c13 := c12.below hb13; have l13 := l12.below hb13; have h13 := h12.below hb13; have i13 := i12.below hb13; have j13 := j12.below hb13; have k13 := k12.below hb13; have m13 := m12.below hb13; have n13 := n12.below hb13; clear T12 x12 y12 p12 q12 u12 v12 c12 l12 h12 i12 j12 k12 m12 n12)
    | (go_at_call 9; (with_reducible refine (to_n (h13.num (by omega))).mono ?_); rintro e w14 ⟨vd14, rfl, d14, hb14⟩; have B14 := B13.trans (hb14.mono B13.size); have T14 := T13.below hb14; have x14 := x13.below hb14; have y14 := y13.below hb14; have p14 := p13.below hb14; have q14 := q13.below hb14; have u14 := u13.below hb14; have v14 := v13.below hb14; have c14 := c13.below hb14; have l14 := l13.below hb14; have h14 := h13.below hb14; have i14 := i13.below hb14; have j14 := j13.below hb14; have k14 := k13.below hb14; have m14 := m13.below hb14; have n14 := n13.below hb14; have o14 := o13.below hb14; clear T13 x13 y13 p13 q13 u13 v13 c13 l13 h13 i13 j13 k13 m13 n13 o13)
    | (go_at_call 21; (with_reducible refine (HSZ.out _ _ _ b6 d14).mono ?_); rintro e w15 ⟨ve15, rfl, e15, hb15⟩; have B15 := B14.trans (hb15.mono B14.size); have T15 := T14.below hb15; have x15 := x14.below hb15; have y15 := y14.below hb15; have p15 := p14.below hb15; have q15 := q14.below hb15; have u15 := u14.below hb15; have v15 := v14.below hb15; have c15 := c14.below hb15; have l15 := l14.below hb15; have h15 := h14.below hb15; have i15 := i14.below hb15; have j15 := j14.below hb15; have k15 := k14.below hb15; have m15 := m14.below hb15; have n15 := n14.below hb15; have o15 := o14.below hb15; have d15 := d14.below hb15; clear T14 x14 y14 p14 q14 u14 v14 c14 l14 h14 i14 j14 k14 m14 n14 o14 d14)
    | (go_at_call 13; (with_reducible refine (rcmp_gt k15 e15 k1 (HSm.out _ _ b1 b3)).mono ?_); rintro e w16 ⟨c5, rfl, dc5, hb16⟩; have B16 := B15.trans (hb16.mono B15.size); have T16 := T15.below hb16; have x16 := x15.below hb16; have y16 := y15.below hb16; have p16 := p15.below hb16; have q16 := q15.below hb16; have u16 := u15.below hb16; have v16 := v15.below hb16; have c16 := c15.below hb16; have l16 := l15.below hb16; have h16 := h15.below hb16; have i16 := i15.below hb16; have j16 := j15.below hb16; have k16 := k15.below hb16; have m16 := m15.below hb16; have n16 := n15.below hb16; have o16 := o15.below hb16; have d16 := d15.below hb16; have e16 := e15.below hb16; clear T15 x15 y15 p15 q15 u15 v15 c15 l15 h15 i15 j15 k15 m15 n15 o15 d15 e15)
    | (go_at_call 9; (with_reducible refine (to_n (l16.num (by omega))).mono ?_); rintro e w17 ⟨vf17, rfl, f17, hb17⟩; have B17 := B16.trans (hb17.mono B16.size); have T17 := T16.below hb17; have x17 := x16.below hb17; have y17 := y16.below hb17; have p17 := p16.below hb17; have q17 := q16.below hb17; have u17 := u16.below hb17; have v17 := v16.below hb17; have c17 := c16.below hb17; have l17 := l16.below hb17; have h17 := h16.below hb17; have i17 := i16.below hb17; have j17 := j16.below hb17; have k17 := k16.below hb17; have m17 := m16.below hb17; have n17 := n16.below hb17; have o17 := o16.below hb17; have d17 := d16.below hb17; have e17 := e16.below hb17; clear T16 x16 y16 p16 q16 u16 v16 c16 l16 h16 i16 j16 k16 m16 n16 o16 d16 e16)
    | (go_at_call 21; (with_reducible refine (HSZ.out _ _ _ b5 f17).mono ?_); rintro e w18 ⟨vg18, rfl, g18, hb18⟩; have B18 := B17.trans (hb18.mono B17.size); have T18 := T17.below hb18; have x18 := x17.below hb18; have y18 := y17.below hb18; have p18 := p17.below hb18; have q18 := q17.below hb18; have u18 := u17.below hb18; have v18 := v17.below hb18; have c18 := c17.below hb18; have l18 := l17.below hb18; have h18 := h17.below hb18; have i18 := i17.below hb18; have j18 := j17.below hb18; have k18 := k17.below hb18; have m18 := m17.below hb18; have n18 := n17.below hb18; have o18 := o17.below hb18; have d18 := d17.below hb18; have e18 := e17.below hb18; have f18 := f17.below hb18; clear T17 x17 y17 p17 q17 u17 v17 c17 l17 h17 i17 j17 k17 m17 n17 o17 d17 e17 f17)
    | (go_at_call 13; (with_reducible refine (rcmp_gt g18 o18 k2 (HSb.out _ b5)).mono ?_); rintro e w19 ⟨c6, rfl, dc6, hb19⟩; have B19 := B18.trans (hb19.mono B18.size); have T19 := T18.below hb19; have x19 := x18.below hb19; have y19 := y18.below hb19; have p19 := p18.below hb19; have q19 := q18.below hb19; have u19 := u18.below hb19; have v19 := v18.below hb19; have c19 := c18.below hb19; have l19 := l18.below hb19; have h19 := h18.below hb19; have i19 := i18.below hb19; have j19 := j18.below hb19; have k19 := k18.below hb19; have m19 := m18.below hb19; have n19 := n18.below hb19; have o19 := o18.below hb19; have d19 := d18.below hb19; have e19 := e18.below hb19; have f19 := f18.below hb19; have g19 := g18.below hb19; clear T18 x18 y18 p18 q18 u18 v18 c18 l18 h18 i18 j18 k18 m18 n18 o18 d18 e18 f18 g18)
    | fail)
  have T0 := T19; have B0 := B19
  clear T19 B19 x19 y19 c19 p19 q19 u19 v19 l19 h19 i19 j19 k19 m19 n19 o19 d19 e19 f19 g19
  go_upto_region 17 with fail
  have G0 : Num (w19.alloc (.cells #[.int .u64 12884901888] 39 (0, 0))) (.slice (some ⟨w19.heap.size, 0, none⟩) 1 1) 12884901888 := lit_den
  have T1 : Tab (w19.alloc (.cells #[.int .u64 12884901888] 39 (0, 0))) := T0.below (below_alloc _ _)
  have B1 : Below w.heap.size w (w19.alloc (.cells #[.int .u64 12884901888] 39 (0, 0))) := B0.trans ((below_alloc _ _).mono B0.size)
  generalize w19.alloc (.cells #[.int .u64 12884901888] 39 (0, 0)) = w20 at *
  generalize w19.heap.size = bd at *
  clear T0 B0
  go_wp2_with
  (first
    | (go_at_call 8; (with_reducible refine (HMN.out _ _ _ (RdN.num1 ?_ mB) (G0.below (below_alloc _ _)) (T1.below (below_alloc _ _))).mono ?_); (exact rd_one (heap_alloc_new _ _) trivial); rintro e w31 ⟨vm, vM, L4, H4, rfl, m31, M31, o4, hb31⟩; have hb31' := (below_a hb31); have B31 := B1.trans (hb31'.mono B1.size); have g31 := G0.below hb31'; have T31 := T1.below hb31'; clear G0 T1; obtain ⟨n1, n2⟩ := KN.out _ _ o4)
    | (go_at_call 8; (with_reducible refine (HMX.out _ _ _ (RdN.num1 ?_ xB) (g31.below (below_alloc _ _)) (T31.below (below_alloc _ _))).mono ?_); (exact rd_one (heap_alloc_new _ _) trivial); rintro e w32 ⟨vn, vN, L5, H5, rfl, n32, N32, o5, hb32⟩; have hb32' := (below_a hb32); have B32 := B31.trans (hb32'.mono B31.size); have g32 := g31.below hb32'; have T32 := T31.below hb32'; have m32 := m31.below hb32'; have M32 := M31.below hb32'; clear g31 T31 m31 M31; obtain ⟨n3, n4⟩ := KM.out _ _ o5)
    | (go_at_call 22; (with_reducible refine (ncmp_leq (m32.num (by omega)) (N32.num (by omega)) (KL.out _ _ _ _ o4 o5)).mono ?_); rintro e w33 ⟨c7, rfl, dc7, hb33⟩; have B33 := B32.trans (hb33.mono B32.size); have g33 := g32.below hb33; have T33 := T32.below hb33; have m33 := m32.below hb33; have M33 := M32.below hb33; have n33 := n32.below hb33; have N33 := N32.below hb33; clear g32 T32 m32 M32 n32 N32)
    | fail)
  go_ret
  exact ⟨rfl, by assumption⟩
end Go.Proofs.YtecgimdgmilcbaaDoor.SAdds
