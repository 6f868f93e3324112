/- SeriesScales returns true and leaves what was there: the walk. Conditions: math/bits' table stands in its variable. -/
import Derived.Test.YtecgimdgmilcbaaDoorSer11
import Derived.Test.YtecgimdgmilcbaaDoorSerLaw2
import Derived.Test.YtecgimdgmilcbaaDoorRefDy3
namespace Go.Proofs.YtecgimdgmilcbaaDoor.SScales
set_option maxRecDepth 100000
open Go.RowKit Go.Proofs.YtecgimdgmilcbaaDoor
set_option linter.unusedVariables false

theorem lit2a {w : World} {T : TypeId} {n : Nat} {o : Obj} (h : n < BB) : Num ((w.alloc (.cells #[.int .u64 (n : Int)] T (0, 0))).alloc o) (.slice (some ⟨w.heap.size, 0, none⟩) 1 1) n := by
  have h1 : RdN (w.alloc (.cells #[.int .u64 (n : Int)] T (0, 0))) (.slice (some ⟨w.heap.size, 0, none⟩) 1 1) [n] := rd_one (heap_alloc_new _ _) trivial
  exact RdN.num1 (h1.below (below_alloc _ _)) h
theorem lit2b {w : World} {T : TypeId} {n : Nat} {o : Obj} (h : n < BB) : Num ((w.alloc o).alloc (.cells #[.int .u64 (n : Int)] T (0, 0))) (.slice (some ⟨w.heap.size + 1, 0, none⟩) 1 1) n := by
  have h1 : RdN ((w.alloc o).alloc (.cells #[.int .u64 (n : Int)] T (0, 0))) (.slice (some ⟨w.heap.size + 1, 0, none⟩) 1 1) [n] := rd_one (heap_new2 _ _ _) trivial
  exact RdN.num1 h1 h

set_option maxRecDepth 100000 in
set_option maxHeartbeats 4000000 in
theorem walk (a0 a1 a2 a3 : Int) (a4 : Bool) (w : World) (w0 : (Lit.int .u32 a0).wf = true) (w1 : (Lit.int .u32 a1).wf = true) (w2 : (Lit.int .u8 a2).wf = true) (w3 : (Lit.int .u8 a3).wf = true) (hT : Tab w) :
    Calls Tryd.prog 6 #[.int .u32 a0, .int .u32 a1, .int .u8 a2, .int .u8 a3, .bool a4] w fun e w' => e = .returned (.bool true) ∧ Below w.heap.size w w' := by
  have h0 : 0 ≤ a0 ∧ a0 ≤ 4294967295 := by simpa [Lit.wf, IntKind.min, IntKind.max, IntKind.bits, IntKind.signed] using w0
  have h1 : 0 ≤ a1 ∧ a1 ≤ 4294967295 := by simpa [Lit.wf, IntKind.min, IntKind.max, IntKind.bits, IntKind.signed] using w1
  have h2 : 0 ≤ a2 ∧ a2 ≤ 255 := by simpa [Lit.wf, IntKind.min, IntKind.max, IntKind.bits, IntKind.signed] using w2
  have h3 : 0 ≤ a3 ∧ a3 ≤ 255 := by simpa [Lit.wf, IntKind.min, IntKind.max, IntKind.bits, IntKind.signed] using w3
  clear w0 w1 w2 w3
  obtain ⟨A, rfl⟩ := Int.eq_ofNat_of_zero_le h0.1
  obtain ⟨B, rfl⟩ := Int.eq_ofNat_of_zero_le h1.1
  obtain ⟨s, rfl⟩ := Int.eq_ofNat_of_zero_le h2.1
  obtain ⟨m, rfl⟩ := Int.eq_ofNat_of_zero_le h3.1
  by_cases hB0 : B = 0
  · subst hB0
    go_enter Tryd.func6, Tryd.ntmps6
    go_wp2_with (go_at_call 7; (with_reducible refine (alive12_any hT).mono ?_); rintro e wa ⟨rfl, hba⟩)
    go_ret
    exact ⟨rfl, hba⟩
  have d0 : ((B : Int) == 0) = false := beq_false_of_ne (by omega)
  have d0' : (B : Int) ≠ 0 := by omega
  obtain ⟨q, hq⟩ : ∃ q, B / 3 = q := ⟨_, rfl⟩
  have iq : (B : Int).tdiv 3 = (q : Int) := by rw [Int.tdiv_eq_ediv_of_nonneg (by omega)]; omega
  have iq2 : (B : Int) / 3 = (q : Int) := by omega
  have wq : IntKind.u32.wrap (q : Int) = (q : Int) := by rw [IntKind.wrap_u32]; omega
  by_cases hA : q < A
  · have dA : decide ((q : Int) < (A : Int)) = true := decide_eq_true (by omega)
    have dA2 : decide (q < A) = true := decide_eq_true hA
    go_enter Tryd.func6, Tryd.ntmps6
    go_wp2_with (go_at_call 7; (with_reducible refine (alive12_any hT).mono ?_); rintro e wa ⟨rfl, hba⟩)
    go_ret
    exact ⟨rfl, hba⟩
  have hg0 := hT.lt
  have dA : decide ((q : Int) < (A : Int)) = false := decide_eq_false (by omega)
  have dA2 : decide (q < A) = false := decide_eq_false hA
  have hB : 0 < B := by omega
  have hAB : 3 * A ≤ B := by omega
  obtain ⟨i, hi⟩ : ∃ i, 8 + s = i := ⟨_, rfl⟩
  obtain ⟨k, hk⟩ : ∃ k, i + m = k := ⟨_, rfl⟩
  have i1 : 8 ≤ i := by omega
  have i2 : i ≤ 9000 := by omega
  have k1 : 8 ≤ k := by omega
  have k2 : k ≤ 9000 := by omega
  have k3 : k ≤ 600 := by omega
  have aB : A < BB := by rw [show BB = 18446744073709551616 from rfl]; omega
  have bB : B < BB := by rw [show BB = 18446744073709551616 from rfl]; omega
  have sA : bitN A ≤ 4096 := Nat.le_trans (bitN_le.2 (show A < 2 ^ 32 by omega)) (by omega)
  have sB : bitN B ≤ 4096 := Nat.le_trans (bitN_le.2 (show B < 2 ^ 32 by omega)) (by omega)
  have v0 : IntKind.u64.wrap (A : Int) = (A : Int) := by rw [IntKind.wrap_u64]; omega
  have v1 : IntKind.u64.wrap (B : Int) = (B : Int) := by rw [IntKind.wrap_u64]; omega
  have v2 : IntKind.i64.wrap (s : Int) = (s : Int) := by rw [IntKind.wrap_i64]; omega
  have v3 : IntKind.i64.wrap (8 + (s : Int)) = (i : Int) := by rw [IntKind.wrap_i64]; omega
  have v4 : IntKind.i64.wrap (m : Int) = (m : Int) := by rw [IntKind.wrap_i64]; omega
  have v5 : IntKind.i64.wrap ((i : Int) + (m : Int)) = (k : Int) := by rw [IntKind.wrap_i64]; omega
  have v6 : IntKind.i64.wrap (2 * (k : Int)) = 2 * (k : Int) := by rw [IntKind.wrap_i64]; omega
  have v7 : IntKind.i64.wrap (2 * (k : Int) + 128) = 2 * (k : Int) + 128 := by rw [IntKind.wrap_i64]; omega
  have v8 : IntKind.i64.wrap ((k : Int) + 80) = (k : Int) + 80 := by rw [IntKind.wrap_i64]; omega
  have v9 : IntKind.i64.wrap (-(i : Int)) = -(i : Int) := by rw [IntKind.wrap_i64]; omega
  have HAI := Lib.hid (fun (w : World) (v u : Value) (h : Num w v A) (k : Num w u B) (hT : Tab w) => Atanh_any h k hT i1 i2 sA sB hB hAB)
  have HAK := Lib.hid (fun (w : World) (v u : Value) (h : Num w v A) (k : Num w u B) (hT : Tab w) => Atanh_any h k hT k1 k2 sA sB hB hAB)
  have KI := Lib.hid (fun L H (h : AtOk A B i L H) => And.intro (h.bits i1 i2) h.le)
  have KS : Hid (∀ a b c d, AtOk A B i a b → AtOk A B k c d → a * 2 ^ m ≤ d ∧ c ≤ b * 2 ^ m ∧ bitN c ≤ 20000 ∧ bitN d ≤ 20000) := Lib.hid (fun a b c d o o' => by
    obtain ⟨b1, b2⟩ := o'.bits k1 k2
    subst hk
    obtain ⟨s1, s2⟩ := at_scales o o' hB hAB
    exact ⟨s1, s2, b1, b2⟩)
  have HSM : Hid (∀ w v X, Num w v X → bitN X ≤ 20000 → Calls Tryd.prog 17 #[v, .int .i64 (m : Int)] w (OneZ w (X * 2 ^ m))) := Lib.hid (fun w v X h hX => shl_n (n := m) h rfl (by omega))
  have HSb : Hid (∀ X, bitN X ≤ 20000 → bitN (X * 2 ^ m) ≤ 2560000) := Lib.hid (fun X h => Nat.le_trans (bitN_shl _ _) (by omega))
  have HLN := Lib.hid (fun (w : World) (hT : Tab w) => ln2_n (w := w) hT k1 k2)
  have HWD : Hid (∀ w v u L H, Num w v (L + L) → Num w u (H + H) → AtOk 1 3 k L H → Calls Tryd.prog 14 #[v, u, .int .i64 (2 * (k : Int) + 128)] w fun e w' => e = .returned (.bool true) ∧ Below w.heap.size w w') := Lib.hid (fun w v u L H h h' ok => wide_ok (m := 2 * k + 128) h h' (by have := ok.le; omega) (by have := ok.wide; omega) (by omega))
  obtain ⟨R, hR⟩ : ∃ R, refAt 1 3 (2 ^ (k + 80)) ((k + 80) / 3 + 2) = R := ⟨_, rfl⟩
  have b1 : bitN 1 ≤ 4096 := by rw [bitN_one]; omega
  have b3 : bitN 3 ≤ 4096 := Nat.le_trans (bitN_le.2 (show 3 < 2 ^ 2 by decide)) (by omega)
  have b2' : bitN 2 ≤ 2 := bitN_le.2 (by decide)
  have HRA : Hid (∀ w v u, RdD w v (digs DD 1) → RdD w u (digs DD 3) → Calls Tryd.prog 16 #[v, u, .int .i64 ((k : Int) + 80)] w (OneD w (digs DD R))) := Lib.hid (fun w v u h h' => by
    rw [← hR]; exact ratanh_n (n := k + 80) h h' (by omega) b1 b3 (by omega) (by omega))
  have sR : bitN R ≤ 10000 := by
    have hT0 : 0 < 2 ^ (k + 80) := Nat.two_pow_pos _
    have r1 : 1 * 2 ^ (k + 80) / 3 ≤ 2 ^ (k + 80) := Nat.div_le_of_le_mul (Nat.mul_le_mul_right _ (by omega))
    have r2 : ∀ r, r ≤ 2 ^ (k + 80) → refH (2 ^ (k + 80)) (r * r / 2 ^ (k + 80)) ((k + 80) / 3 + 2) ((k + 80) / 3 + 2 + 1) * r / 2 ^ (k + 80) ≤ 8192 * 2 ^ (k + 80) := fun r hr => by
      have q0 : r * r / 2 ^ (k + 80) ≤ 2 ^ (k + 80) := Nat.div_le_of_le_mul (Nat.mul_le_mul hr hr)
      have q1 := refH_size (M := (k + 80) / 3 + 2) hT0 q0 ((k + 80) / 3 + 2 + 1)
      refine Nat.le_trans (Nat.div_le_of_le_mul ?_) (Nat.le_trans q1 (Nat.mul_le_mul_right _ (by omega)))
      rw [Nat.mul_comm]; exact Nat.mul_le_mul_right _ hr
    rw [← hR]
    unfold refAt
    exact Nat.le_trans (bitN_le_pow (r2 _ r1)) (by omega)
  have KH : Hid (∀ L H, AtOk 1 3 k L H → (L + L) * 2 ^ 80 ≤ R * 2 + 1048576 ∧ R * 2 ≤ (H + H) * 2 ^ 80 ∧ bitN (L + L) ≤ 20000 ∧ bitN (H + H) ≤ 20000 ∧ bitN (R * 2) ≤ 20000) := Lib.hid (fun L H ok => by
    rw [← hR]
    obtain ⟨h1, h2⟩ := at_holds2 ok (by omega) (by omega)
    have h3 : ∀ X, X ≤ k * 2 ^ k + (k + 64) → bitN (X + X) ≤ 20000 := fun X hX => by
      have h0 := Nat.two_pow_pos k
      have h4 : k * 2 ^ k ≤ 600 * 2 ^ k := Nat.mul_le_mul_right _ (by omega)
      have h5 : k < 2 ^ k := Nat.lt_two_pow_self
      exact Nat.le_trans (bitN_le.2 (show X + X < 2 ^ (k + 15) by rw [Nat.pow_add]; omega)) (by omega)
    refine ⟨h1, h2, h3 L (by have := ok.short; omega), h3 H (by have := ok.short; have := ok.wide; omega), ?_⟩
    rw [hR]
    exact Nat.le_trans (bitN_mul_le _ _) (by omega))
  have HN2 : Hid (∀ w, Calls Tryd.prog 23 #[.int .u64 2] w (OneD w (digs DD 2))) := Lib.hid (fun w => num_any (n := 2) (by decide))
  have HN3 : Hid (∀ w, Calls Tryd.prog 23 #[.int .u64 3] w (OneD w (digs DD 3))) := Lib.hid (fun w => num_any (n := 3) (by decide))
  clear hR hq hi hk hB0 hA hB hAB h0 h1 h2 h3 d0'
  go_enter Tryd.func6, Tryd.ntmps6
  go_upto_region 8 with
  (first
    | (go_at_call 7; (with_reducible refine (alive12_any hT).mono ?_); rintro e w1 ⟨rfl, hb1⟩; have B1 := hb1; have T1 := hT.below hb1; clear hT)
    | fail)
  have T2 : Tab ((w1.alloc (.cells #[.int .u64 (A : Int)] 39 (0, 0))).alloc (.cells #[.int .u64 (B : Int)] 39 (0, 0))) := T1.below below_2
  have x2 : Num ((w1.alloc (.cells #[.int .u64 (A : Int)] 39 (0, 0))).alloc (.cells #[.int .u64 (B : Int)] 39 (0, 0))) (.slice (some ⟨w1.heap.size, 0, none⟩) 1 1) A := lit2a aB
  have y2 : Num ((w1.alloc (.cells #[.int .u64 (A : Int)] 39 (0, 0))).alloc (.cells #[.int .u64 (B : Int)] 39 (0, 0))) (.slice (some ⟨w1.heap.size + 1, 0, none⟩) 1 1) B := lit2b bB
  have B2 : Below w.heap.size w ((w1.alloc (.cells #[.int .u64 (A : Int)] 39 (0, 0))).alloc (.cells #[.int .u64 (B : Int)] 39 (0, 0))) := B1.trans (below_2.mono B1.size)
  clear T1 B1
  generalize (w1.alloc (.cells #[.int .u64 (A : Int)] 39 (0, 0))).alloc (.cells #[.int .u64 (B : Int)] 39 (0, 0)) = w2 at *
  generalize hbl : w1.heap.size = bl at *
  go_upto_region 19 with
  (first
    | (go_at_call 8; (with_reducible refine (HAI.out _ _ _ x2 y2 T2).mono ?_); rintro e w3 ⟨va, vb, La, Lb, rfl, a3, b3, o1, hb3⟩; have B3 := B2.trans (hb3.mono B2.size); have T3 := T2.below hb3; have x3 := x2.below hb3; have y3 := y2.below hb3; clear T2 x2 y2; obtain ⟨⟨sa, sb⟩, lab⟩ := KI.out _ _ o1)
    | (go_at_call 8; (with_reducible refine (HAK.out _ _ _ x3 y3 T3).mono ?_); rintro e w4 ⟨vc, vd, Lc, Ld, rfl, c4, d4, o2, hb4⟩; have B4 := B3.trans (hb4.mono B3.size); have T4 := T3.below hb4; have x4 := x3.below hb4; have y4 := y3.below hb4; have a4 := a3.below hb4; have b4 := b3.below hb4; clear T3 x3 y3 a3 b3; obtain ⟨g1, g2, sc, sd⟩ := KS.out _ _ _ _ o1 o2)
    | (go_at_call 17; (with_reducible refine (HSM.out _ _ _ (a4.num (by omega)) sa).mono ?_); rintro e w5 ⟨vp5, rfl, p5, hb5⟩; have B5 := B4.trans (hb5.mono B4.size); have T5 := T4.below hb5; have x5 := x4.below hb5; have y5 := y4.below hb5; have a5 := a4.below hb5; have b5 := b4.below hb5; have c5 := c4.below hb5; have d5 := d4.below hb5; clear T4 x4 y4 a4 b4 c4 d4)
    | (go_at_call 17; (with_reducible refine (HSM.out _ _ _ (b5.num (by omega)) sb).mono ?_); rintro e w6 ⟨vq6, rfl, q6, hb6⟩; have B6 := B5.trans (hb6.mono B5.size); have T6 := T5.below hb6; have x6 := x5.below hb6; have y6 := y5.below hb6; have a6 := a5.below hb6; have b6 := b5.below hb6; have c6 := c5.below hb6; have d6 := d5.below hb6; have p6 := p5.below hb6; clear T5 x5 y5 a5 b5 c5 d5 p5)
    | (go_at_call 22; (with_reducible refine (ncmp_gt (p6.num (HSb.out _ sa)) (d6.num (by omega)) g1).mono ?_); rintro e w7 ⟨c1, rfl, dc1, hb7⟩; have B7 := B6.trans (hb7.mono B6.size); have T7 := T6.below hb7; have x7 := x6.below hb7; have y7 := y6.below hb7; have a7 := a6.below hb7; have b7 := b6.below hb7; have c7 := c6.below hb7; have d7 := d6.below hb7; have p7 := p6.below hb7; have q7 := q6.below hb7; clear T6 x6 y6 a6 b6 c6 d6 p6 q6)
    | (go_at_call 22; (with_reducible refine (ncmp_gt (c7.num (by omega)) (q7.num (HSb.out _ sb)) g2).mono ?_); rintro e w8 ⟨c2, rfl, dc2, hb8⟩; have B8 := B7.trans (hb8.mono B7.size); have T8 := T7.below hb8; have x8 := x7.below hb8; have y8 := y7.below hb8; have a8 := a7.below hb8; have b8 := b7.below hb8; have c8 := c7.below hb8; have d8 := d7.below hb8; have p8 := p7.below hb8; have q8 := q7.below hb8; clear T7 x7 y7 a7 b7 c7 d7 p7 q7)
    | (go_at_call 26; (with_reducible refine (HLN.out _ T8).mono ?_); rintro e w9 ⟨vl, vh, L, H, rfl, l9, h9, ok, hb9⟩; have B9 := B8.trans (hb9.mono B8.size); have T9 := T8.below hb9; have x9 := x8.below hb9; have y9 := y8.below hb9; have a9 := a8.below hb9; have b9 := b8.below hb9; have c9 := c8.below hb9; have d9 := d8.below hb9; have p9 := p8.below hb9; have q9 := q8.below hb9; clear T8 x8 y8 a8 b8 c8 d8 p8 q8; obtain ⟨j1, j2, sl, sh, sr⟩ := KH.out _ _ ok)
    | (go_at_call 14; (with_reducible refine (HWD.out _ _ _ _ _ (l9.num (by omega)) (h9.num (by omega)) ok).mono ?_); rintro e w10 ⟨rfl, hb10⟩; have B10 := B9.trans (hb10.mono B9.size); have T10 := T9.below hb10; have x10 := x9.below hb10; have y10 := y9.below hb10; have a10 := a9.below hb10; have b10 := b9.below hb10; have c10 := c9.below hb10; have d10 := d9.below hb10; have p10 := p9.below hb10; have q10 := q9.below hb10; have l10 := l9.below hb10; have h10 := h9.below hb10; clear T9 x9 y9 a9 b9 c9 d9 p9 q9 l9 h9)
    | (go_at_call 23; (with_reducible refine (rnum_k1).mono ?_); rintro e w11 ⟨ve11, rfl, e11, hb11⟩; have B11 := B10.trans (hb11.mono B10.size); have T11 := T10.below hb11; have x11 := x10.below hb11; have y11 := y10.below hb11; have a11 := a10.below hb11; have b11 := b10.below hb11; have c11 := c10.below hb11; have d11 := d10.below hb11; have p11 := p10.below hb11; have q11 := q10.below hb11; have l11 := l10.below hb11; have h11 := h10.below hb11; clear T10 x10 y10 a10 b10 c10 d10 p10 q10 l10 h10)
    | (go_at_call 23; (with_reducible refine (HN3.out _).mono ?_); rintro e w12 ⟨vf12, rfl, f12, hb12⟩; have B12 := B11.trans (hb12.mono B11.size); have T12 := T11.below hb12; have x12 := x11.below hb12; have y12 := y11.below hb12; have a12 := a11.below hb12; have b12 := b11.below hb12; have c12 := c11.below hb12; have d12 := d11.below hb12; have p12 := p11.below hb12; have q12 := q11.below hb12; have l12 := l11.below hb12; have h12 := h11.below hb12; have e12 := e11.below hb12; clear T11 x11 y11 a11 b11 c11 d11 p11 q11 l11 h11 e11)
    | (go_at_call 16; (with_reducible refine (HRA.out _ _ _ e12 f12).mono ?_); rintro e w13 ⟨vr13, rfl, r13, hb13⟩; have B13 := B12.trans (hb13.mono B12.size); have T13 := T12.below hb13; have x13 := x12.below hb13; have y13 := y12.below hb13; have a13 := a12.below hb13; have b13 := b12.below hb13; have c13 := c12.below hb13; have d13 := d12.below hb13; have p13 := p12.below hb13; have q13 := q12.below hb13; have l13 := l12.below hb13; have h13 := h12.below hb13; have e13 := e12.below hb13; have f13 := f12.below hb13; clear T12 x12 y12 a12 b12 c12 d12 p12 q12 l12 h12 e12 f12)
    | (go_at_call 23; (with_reducible refine (HN2.out _).mono ?_); rintro e w14 ⟨vg14, rfl, g14, hb14⟩; have B14 := B13.trans (hb14.mono B13.size); have T14 := T13.below hb14; have x14 := x13.below hb14; have y14 := y13.below hb14; have a14 := a13.below hb14; have b14 := b13.below hb14; have c14 := c13.below hb14; have d14 := d13.below hb14; have p14 := p13.below hb14; have q14 := q13.below hb14; have l14 := l13.below hb14; have h14 := h13.below hb14; have e14 := e13.below hb14; have f14 := f13.below hb14; have r14 := r13.below hb14; clear T13 x13 y13 a13 b13 c13 d13 p13 q13 l13 h13 e13 f13 r13)
    | (go_at_call 20; (with_reducible refine (rmul_n r14 g14 rfl (by omega) (by omega)).mono ?_); rintro e w15 ⟨vt15, rfl, t15, hb15⟩; have B15 := B14.trans (hb15.mono B14.size); have T15 := T14.below hb15; have x15 := x14.below hb15; have y15 := y14.below hb15; have a15 := a14.below hb15; have b15 := b14.below hb15; have c15 := c14.below hb15; have d15 := d14.below hb15; have p15 := p14.below hb15; have q15 := q14.below hb15; have l15 := l14.below hb15; have h15 := h14.below hb15; have e15 := e14.below hb15; have f15 := f14.below hb15; have r15 := r14.below hb15; have g15 := g14.below hb15; clear T14 x14 y14 a14 b14 c14 d14 p14 q14 l14 h14 e14 f14 r14 g14)
    | (go_at_call 15; (with_reducible refine (holds_ok (l15.num (by omega)) (h15.num (by omega)) t15 sl sh sr j1 j2).mono ?_); rintro e w16 ⟨rfl, hb16⟩; have B16 := B15.trans (hb16.mono B15.size); have T16 := T15.below hb16; have x16 := x15.below hb16; have y16 := y15.below hb16; have a16 := a15.below hb16; have b16 := b15.below hb16; have c16 := c15.below hb16; have d16 := d15.below hb16; have p16 := p15.below hb16; have q16 := q15.below hb16; have l16 := l15.below hb16; have h16 := h15.below hb16; have e16 := e15.below hb16; have f16 := f15.below hb16; have r16 := r15.below hb16; have g16 := g15.below hb16; have t16 := t15.below hb16; clear T15 x15 y15 a15 b15 c15 d15 p15 q15 l15 h15 e15 f15 r15 g15 t15)
    | fail)
  have Ta := T16; have Ba := B16; have aa := a16; have ba := b16
  clear T16 B16 a16 b16 x16 y16 c16 d16 p16 q16 l16 h16 e16 f16 r16 g16 t16
  obtain ⟨⟨n1, m1, e1⟩, q1⟩ : ∃ d, bareD ⟨a4, if a4 then Lb else La, -(i : Int)⟩ = d := ⟨_, rfl⟩
  obtain ⟨⟨n2, m2, e2⟩, q2⟩ : ∃ d, bareD ⟨a4, if a4 then La else Lb, -(i : Int)⟩ = d := ⟨_, rfl⟩
  have HWI := Lib.hid (fun (w : World) v u (h : Num w v La) (k : Num w u Lb) (hT : Tab w) => Within_n (neg := a4) (s := (i : Int)) h k hT lab (by omega) (by omega) (by omega) q1 q2)
  have hc : cmpD ⟨n1, m1, e1⟩ ⟨n2, m2, e2⟩ ≤ 0 := by
    apply cmpD_le
    rw [← q1, ← q2, qv_bare (by show -2147483648 ≤ -(i : Int); omega) (by show -(i : Int) ≤ 2147483648; omega), qv_bare (by show -2147483648 ≤ -(i : Int); omega) (by show -(i : Int) ≤ 2147483648; omega)]
    have h := Rat.mul_le_mul_of_nonneg_right (Rat.natCast_le_natCast.2 lab) (Rat.le_of_lt (pw_pos (-(i : Int))))
    cases a4
    · exact h
    · show -((Lb : Rat) * pw (-(i : Int))) ≤ -((La : Rat) * pw (-(i : Int)))
      generalize (La : Rat) * pw (-(i : Int)) = x at *
      generalize (Lb : Rat) * pw (-(i : Int)) = y at *
      grind
  obtain ⟨c, hcc⟩ : ∃ c, cmpD ⟨n1, m1, e1⟩ ⟨n2, m2, e2⟩ = c := ⟨_, rfl⟩
  have dc : decide (c ≤ 0) = true := decide_eq_true (by omega)
  have sz1 : bitN (if a4 then Lb else La) ≤ 20000 := by cases a4 <;> simp <;> omega
  have sz2 : bitN (if a4 then La else Lb) ≤ 20000 := by cases a4 <;> simp <;> omega
  obtain ⟨f1, r1, r2⟩ := bareD_fits q1 (by omega) (by omega) (by omega)
  obtain ⟨f2, r3, r4⟩ := bareD_fits q2 (by omega) (by omega) (by omega)
  have y1 := bareD_bits q1
  have y2 := bareD_bits q2
  have HCM := Lib.hid (fun w v u (h : RdN w v (digs BB m1)) (k : RdN w u (digs BB m2)) (hT : Tab w) => Cmp_n (h.num (by omega)) (k.num (by omega)) hT (by omega) (by omega) (by omega) (by omega) (bareD_again q1 (by omega) (by omega)) (bareD_again q2 (by omega) (by omega)) (by omega) (by omega) hcc)
  have HT1 := Lib.hid (fun w u (h : RdD w u (digs DD (if a4 then Lb else La))) => RTo_n (neg := a4) (E := -(i : Int)) h (by omega) (by omega) (by omega) q1 f1)
  have HT2 := Lib.hid (fun w u (h : RdD w u (digs DD (if a4 then La else Lb))) => RTo_n (neg := a4) (E := -(i : Int)) h (by omega) (by omega) (by omega) q2 f2)
  have HS1 := Lib.hid (fun w v u (h : RdN w v (digs BB m1)) (k : RdN w u (digs BB m1)) => RSame_n (neg := n1) (neg2 := n1) (E := e1) (E2 := e1) (r := true) h k (by simp))
  have HS2 := Lib.hid (fun w v u (h : RdN w v (digs BB m2)) (k : RdN w u (digs BB m2)) => RSame_n (neg := n2) (neg2 := n2) (E := e2) (E2 := e2) (r := true) h k (by simp))
  clear q1 q2 hc hcc f1 f2 r1 r2 r3 r4 y1 y2 sz1 sz2 o1 o2 ok g1 g2 j1 j2
  go_upto_region 21 with
  (first
    | (go_at_call 27; (with_reducible refine (HWI.out _ _ _ (aa.num (by omega)) (ba.num (by omega)) Ta).mono ?_); rintro e w21 ⟨vf, vg, rfl, f21, g21, hb21⟩; have B21 := Ba.trans (hb21.mono Ba.size); have T21 := Ta.below hb21; have a21 := aa.below hb21; have b21 := ba.below hb21; clear Ta aa ba; obtain ⟨af21, kf21, rfl, -⟩ := f21.view; (try simp only [List.length_nil] at f21); obtain ⟨ag21, kg21, rfl, -⟩ := g21.view; try simp only [List.length_nil] at g21)
    | (go_at_call 9; (with_reducible refine (to_n ((a21.below (below_alloc _ _)).num (by omega))).mono ?_); rintro e w22 ⟨vx22, rfl, x22, hb22⟩; have hb22' := (below_a hb22); have B22 := B21.trans (hb22'.mono B21.size); have T22 := T21.below hb22'; have a22 := a21.below hb22'; have b22 := b21.below hb22'; have f22 := f21.below hb22'; have g22 := g21.below hb22'; clear T21 a21 b21 f21 g21; have W22 := blk_new.below hb22; obtain ⟨cW0_22, cW1_22, cW2_22, cW3_22, cW4_22, cW5_22, fW0_22, fW1_22, fW2_22, fW3_22, fW4_22, fW5_22, sW_22⟩ := W22.open6; obtain ⟨ax22, kx22, rfl, -⟩ := x22.view; try simp only [List.length_nil] at x22)
    | (go_at_call 9; (with_reducible refine (to_n (b22.num (by omega))).mono ?_); rintro e w23 ⟨vy23, rfl, y23, hb23⟩; have B23 := B22.trans (hb23.mono B22.size); have T23 := T22.below hb23; have a23 := a22.below hb23; have b23 := b22.below hb23; have f23 := f22.below hb23; have g23 := g22.below hb23; have W23 := W22.below hb23; have x23 := x22.below hb23; clear T22 a22 b22 f22 g22 W22 x22; clear cW0_22 cW1_22 cW2_22 cW3_22 cW4_22 cW5_22 fW0_22 fW1_22 fW2_22 fW3_22 fW4_22 fW5_22 sW_22; obtain ⟨cW0_23, cW1_23, cW2_23, cW3_23, cW4_23, cW5_23, fW0_23, fW1_23, fW2_23, fW3_23, fW4_23, fW5_23, sW_23⟩ := W23.open6; obtain ⟨ay23, ky23, rfl, -⟩ := y23.view; try simp only [List.length_nil] at y23)
    | fail)
  have hl : w21.heap.size < w23.heap.size := W23.1
  have hl0 : w.heap.size ≤ w23.heap.size := B23.size
  have W3 := W23.below (below_2 (o1 := .cells #[.bool a4, .slice ax22 (digs DD La).length kx22, .int .i64 (-(i : Int))] 53 (0, 0)) (o2 := .cells #[.bool a4, .slice ay23 (digs DD Lb).length ky23, .int .i64 (-(i : Int))] 53 (0, 0)))
  have f3 := f23.below (below_2 (o1 := .cells #[.bool a4, .slice ax22 (digs DD La).length kx22, .int .i64 (-(i : Int))] 53 (0, 0)) (o2 := .cells #[.bool a4, .slice ay23 (digs DD Lb).length ky23, .int .i64 (-(i : Int))] 53 (0, 0)))
  have g3 := g23.below (below_2 (o1 := .cells #[.bool a4, .slice ax22 (digs DD La).length kx22, .int .i64 (-(i : Int))] 53 (0, 0)) (o2 := .cells #[.bool a4, .slice ay23 (digs DD Lb).length ky23, .int .i64 (-(i : Int))] 53 (0, 0)))
  have x3 := x23.below (below_2 (o1 := .cells #[.bool a4, .slice ax22 (digs DD La).length kx22, .int .i64 (-(i : Int))] 53 (0, 0)) (o2 := .cells #[.bool a4, .slice ay23 (digs DD Lb).length ky23, .int .i64 (-(i : Int))] 53 (0, 0)))
  have y3 := y23.below (below_2 (o1 := .cells #[.bool a4, .slice ax22 (digs DD La).length kx22, .int .i64 (-(i : Int))] 53 (0, 0)) (o2 := .cells #[.bool a4, .slice ay23 (digs DD Lb).length ky23, .int .i64 (-(i : Int))] 53 (0, 0)))
  have T3 := T23.below (below_2 (o1 := .cells #[.bool a4, .slice ax22 (digs DD La).length kx22, .int .i64 (-(i : Int))] 53 (0, 0)) (o2 := .cells #[.bool a4, .slice ay23 (digs DD Lb).length ky23, .int .i64 (-(i : Int))] 53 (0, 0)))
  have B3 := B23.trans ((below_2 (o1 := .cells #[.bool a4, .slice ax22 (digs DD La).length kx22, .int .i64 (-(i : Int))] 53 (0, 0)) (o2 := .cells #[.bool a4, .slice ay23 (digs DD Lb).length ky23, .int .i64 (-(i : Int))] 53 (0, 0))).mono B23.size)
  have U3 : Blk ((w23.alloc (.cells #[.bool a4, .slice ax22 (digs DD La).length kx22, .int .i64 (-(i : Int))] 53 (0, 0))).alloc (.cells #[.bool a4, .slice ay23 (digs DD Lb).length ky23, .int .i64 (-(i : Int))] 53 (0, 0))) w23.heap.size #[.bool a4, .slice ax22 (digs DD La).length kx22, .int .i64 (-(i : Int))] := blk_a1
  have V3 : Blk ((w23.alloc (.cells #[.bool a4, .slice ax22 (digs DD La).length kx22, .int .i64 (-(i : Int))] 53 (0, 0))).alloc (.cells #[.bool a4, .slice ay23 (digs DD Lb).length ky23, .int .i64 (-(i : Int))] 53 (0, 0))) (w23.heap.size + 1) #[.bool a4, .slice ay23 (digs DD Lb).length ky23, .int .i64 (-(i : Int))] := blk_a2
  clear W23 f23 g23 x23 y23 T23 B23 a23 b23 cW0_23 cW1_23 cW2_23 cW3_23 cW4_23 cW5_23 fW0_23 fW1_23 fW2_23 fW3_23 fW4_23 fW5_23 sW_23
  generalize (w23.alloc (.cells #[.bool a4, .slice ax22 (digs DD La).length kx22, .int .i64 (-(i : Int))] 53 (0, 0))).alloc (.cells #[.bool a4, .slice ay23 (digs DD Lb).length ky23, .int .i64 (-(i : Int))] 53 (0, 0)) = w3 at *
  generalize w23.heap.size = bu at *
  generalize hbw : w21.heap.size = bw at *
  clear hbw
  cases a4
  · simp only [Bool.false_eq_true, if_false] at HT1 HT2
    obtain ⟨cU0, cU1, cU2, fU0, fU1, fU2, -⟩ := U3.open3
    obtain ⟨cV0, cV1, cV2, fV0, fV1, fV2, -⟩ := V3.open3
    obtain ⟨cW0, cW1, cW2, cW3, cW4, cW5, fW0, fW1, fW2, fW3, fW4, fW5, -⟩ := W3.open6
    go_wp2_with
    (first
      | (go_at_call 28; (with_reducible refine (HT1.out _ _ x3).mono ?_); rintro e w31 ⟨vp31, rfl, p31, hb31⟩; have B31 := B3.trans (hb31.mono B3.size); have T31 := T3.below hb31; have x31 := x3.below hb31; have y31 := y3.below hb31; have f31 := f3.below hb31; have g31 := g3.below hb31; have U31 := U3.below hb31; have V31 := V3.below hb31; have W31 := W3.below hb31; clear T3 x3 y3 f3 g3 U3 V3 W3; obtain ⟨cU0_31, cU1_31, cU2_31, fU0_31, fU1_31, fU2_31, sU_31⟩ := U31.open3; obtain ⟨cV0_31, cV1_31, cV2_31, fV0_31, fV1_31, fV2_31, sV_31⟩ := V31.open3; obtain ⟨cW0_31, cW1_31, cW2_31, cW3_31, cW4_31, cW5_31, fW0_31, fW1_31, fW2_31, fW3_31, fW4_31, fW5_31, sW_31⟩ := W31.open6; obtain ⟨ap31, kp31, rfl, -⟩ := p31.view; try simp only [List.length_nil] at p31)
      | (go_at_call 28; (with_reducible refine (HT2.out _ _ (y31.below (below_alloc _ _))).mono ?_); rintro e w32 ⟨vq32, rfl, q32, hb32⟩; have hb32' := (below_a hb32); have B32 := B31.trans (hb32'.mono B31.size); have T32 := T31.below hb32'; have x32 := x31.below hb32'; have y32 := y31.below hb32'; have f32 := f31.below hb32'; have g32 := g31.below hb32'; have U32 := U31.below hb32'; have V32 := V31.below hb32'; have W32 := W31.below hb32'; have p32 := p31.below hb32'; clear T31 x31 y31 f31 g31 U31 V31 W31 p31; have P32 := blk_new.below hb32; clear cU0_31 cU1_31 cU2_31 fU0_31 fU1_31 fU2_31 sU_31; obtain ⟨cU0_32, cU1_32, cU2_32, fU0_32, fU1_32, fU2_32, sU_32⟩ := U32.open3; clear cV0_31 cV1_31 cV2_31 fV0_31 fV1_31 fV2_31 sV_31; obtain ⟨cV0_32, cV1_32, cV2_32, fV0_32, fV1_32, fV2_32, sV_32⟩ := V32.open3; clear cW0_31 cW1_31 cW2_31 cW3_31 cW4_31 cW5_31 fW0_31 fW1_31 fW2_31 fW3_31 fW4_31 fW5_31 sW_31; obtain ⟨cW0_32, cW1_32, cW2_32, cW3_32, cW4_32, cW5_32, fW0_32, fW1_32, fW2_32, fW3_32, fW4_32, fW5_32, sW_32⟩ := W32.open6; obtain ⟨cP0_32, cP1_32, cP2_32, fP0_32, fP1_32, fP2_32, sP_32⟩ := P32.open3; obtain ⟨aq32, kq32, rfl, -⟩ := q32.view; try simp only [List.length_nil] at q32)
      | (go_at_call 29; (with_reducible refine (HS1.out _ _ _ (f32.below (below_alloc _ _)) (p32.below (below_alloc _ _))).mono ?_); rintro e w33 ⟨rfl, hb33⟩; have hb33' := (below_a hb33); have B33 := B32.trans (hb33'.mono B32.size); have T33 := T32.below hb33'; have x33 := x32.below hb33'; have y33 := y32.below hb33'; have f33 := f32.below hb33'; have g33 := g32.below hb33'; have U33 := U32.below hb33'; have V33 := V32.below hb33'; have W33 := W32.below hb33'; have p33 := p32.below hb33'; have P33 := P32.below hb33'; have q33 := q32.below hb33'; clear T32 x32 y32 f32 g32 U32 V32 W32 p32 P32 q32; have Q33 := blk_new.below hb33; clear cU0_32 cU1_32 cU2_32 fU0_32 fU1_32 fU2_32 sU_32; obtain ⟨cU0_33, cU1_33, cU2_33, fU0_33, fU1_33, fU2_33, sU_33⟩ := U33.open3; clear cV0_32 cV1_32 cV2_32 fV0_32 fV1_32 fV2_32 sV_32; obtain ⟨cV0_33, cV1_33, cV2_33, fV0_33, fV1_33, fV2_33, sV_33⟩ := V33.open3; clear cW0_32 cW1_32 cW2_32 cW3_32 cW4_32 cW5_32 fW0_32 fW1_32 fW2_32 fW3_32 fW4_32 fW5_32 sW_32; obtain ⟨cW0_33, cW1_33, cW2_33, cW3_33, cW4_33, cW5_33, fW0_33, fW1_33, fW2_33, fW3_33, fW4_33, fW5_33, sW_33⟩ := W33.open6; clear cP0_32 cP1_32 cP2_32 fP0_32 fP1_32 fP2_32 sP_32; obtain ⟨cP0_33, cP1_33, cP2_33, fP0_33, fP1_33, fP2_33, sP_33⟩ := P33.open3; obtain ⟨cQ0_33, cQ1_33, cQ2_33, fQ0_33, fQ1_33, fQ2_33, sQ_33⟩ := Q33.open3)
      | (go_at_call 29; (with_reducible refine (HS2.out _ _ _ g33 q33).mono ?_); rintro e w34 ⟨rfl, hb34⟩; have B34 := B33.trans (hb34.mono B33.size); have T34 := T33.below hb34; have x34 := x33.below hb34; have y34 := y33.below hb34; have f34 := f33.below hb34; have g34 := g33.below hb34; have U34 := U33.below hb34; have V34 := V33.below hb34; have W34 := W33.below hb34; have p34 := p33.below hb34; have P34 := P33.below hb34; have q34 := q33.below hb34; have Q34 := Q33.below hb34; clear T33 x33 y33 f33 g33 U33 V33 W33 p33 P33 q33 Q33; clear cU0_33 cU1_33 cU2_33 fU0_33 fU1_33 fU2_33 sU_33; obtain ⟨cU0_34, cU1_34, cU2_34, fU0_34, fU1_34, fU2_34, sU_34⟩ := U34.open3; clear cV0_33 cV1_33 cV2_33 fV0_33 fV1_33 fV2_33 sV_33; obtain ⟨cV0_34, cV1_34, cV2_34, fV0_34, fV1_34, fV2_34, sV_34⟩ := V34.open3; clear cW0_33 cW1_33 cW2_33 cW3_33 cW4_33 cW5_33 fW0_33 fW1_33 fW2_33 fW3_33 fW4_33 fW5_33 sW_33; obtain ⟨cW0_34, cW1_34, cW2_34, cW3_34, cW4_34, cW5_34, fW0_34, fW1_34, fW2_34, fW3_34, fW4_34, fW5_34, sW_34⟩ := W34.open6; clear cP0_33 cP1_33 cP2_33 fP0_33 fP1_33 fP2_33 sP_33; obtain ⟨cP0_34, cP1_34, cP2_34, fP0_34, fP1_34, fP2_34, sP_34⟩ := P34.open3; clear cQ0_33 cQ1_33 cQ2_33 fQ0_33 fQ1_33 fQ2_33 sQ_33; obtain ⟨cQ0_34, cQ1_34, cQ2_34, fQ0_34, fQ1_34, fQ2_34, sQ_34⟩ := Q34.open3)
      | (go_at_call 30; (with_reducible refine (HCM.out _ _ _ f34 g34 T34).mono ?_); rintro e w35 ⟨rfl, hb35⟩; have B35 := B34.trans (hb35.mono B34.size); have T35 := T34.below hb35; have x35 := x34.below hb35; have y35 := y34.below hb35; have f35 := f34.below hb35; have g35 := g34.below hb35; have U35 := U34.below hb35; have V35 := V34.below hb35; have W35 := W34.below hb35; have p35 := p34.below hb35; have P35 := P34.below hb35; have q35 := q34.below hb35; have Q35 := Q34.below hb35; clear T34 x34 y34 f34 g34 U34 V34 W34 p34 P34 q34 Q34; clear cU0_34 cU1_34 cU2_34 fU0_34 fU1_34 fU2_34 sU_34; obtain ⟨cU0_35, cU1_35, cU2_35, fU0_35, fU1_35, fU2_35, sU_35⟩ := U35.open3; clear cV0_34 cV1_34 cV2_34 fV0_34 fV1_34 fV2_34 sV_34; obtain ⟨cV0_35, cV1_35, cV2_35, fV0_35, fV1_35, fV2_35, sV_35⟩ := V35.open3; clear cW0_34 cW1_34 cW2_34 cW3_34 cW4_34 cW5_34 fW0_34 fW1_34 fW2_34 fW3_34 fW4_34 fW5_34 sW_34; obtain ⟨cW0_35, cW1_35, cW2_35, cW3_35, cW4_35, cW5_35, fW0_35, fW1_35, fW2_35, fW3_35, fW4_35, fW5_35, sW_35⟩ := W35.open6; clear cP0_34 cP1_34 cP2_34 fP0_34 fP1_34 fP2_34 sP_34; obtain ⟨cP0_35, cP1_35, cP2_35, fP0_35, fP1_35, fP2_35, sP_35⟩ := P35.open3; clear cQ0_34 cQ1_34 cQ2_34 fQ0_34 fQ1_34 fQ2_34 sQ_34; obtain ⟨cQ0_35, cQ1_35, cQ2_35, fQ0_35, fQ1_35, fQ2_35, sQ_35⟩ := Q35.open3)
      | fail)
    go_ret
    exact ⟨rfl, by assumption⟩
  · simp only [if_true] at HT1 HT2
    obtain ⟨cU0, cU1, cU2, fU0, fU1, fU2, -⟩ := U3.open3
    obtain ⟨cV0, cV1, cV2, fV0, fV1, fV2, -⟩ := V3.open3
    obtain ⟨kc0, kc1, kc2, kf0, kf1, kf2, -⟩ := (V3.other3 (show bu + 1 ≠ bu by omega) (.bool true) (.slice ay23 (digs DD Lb).length ky23) (.int .i64 (-(i : Int)))).open3
    go_upto_region 23 with fail
    have U4 := (U3.set3 (.bool true) (.slice ay23 (digs DD Lb).length ky23) (.int .i64 (-(i : Int)))).other3 (show bu ≠ bu + 1 by omega) (.bool true) (.slice ax22 (digs DD La).length kx22) (.int .i64 (-(i : Int)))
    have V4 := (V3.other3 (show bu + 1 ≠ bu by omega) (.bool true) (.slice ay23 (digs DD Lb).length ky23) (.int .i64 (-(i : Int)))).set3 (.bool true) (.slice ax22 (digs DD La).length kx22) (.int .i64 (-(i : Int)))
    have W4 := (W3.other3 (show bw ≠ bu by omega) (.bool true) (.slice ay23 (digs DD Lb).length ky23) (.int .i64 (-(i : Int)))).other3 (show bw ≠ bu + 1 by omega) (.bool true) (.slice ax22 (digs DD La).length kx22) (.int .i64 (-(i : Int)))
    have V5 := V3.other3 (show bu + 1 ≠ bu by omega) (.bool true) (.slice ay23 (digs DD Lb).length ky23) (.int .i64 (-(i : Int)))
    have f4 := (f3.set3 U3 dcells (.bool true) (.slice ay23 (digs DD Lb).length ky23) (.int .i64 (-(i : Int)))).set3 V5 dcells (.bool true) (.slice ax22 (digs DD La).length kx22) (.int .i64 (-(i : Int)))
    have g4 := (g3.set3 U3 dcells (.bool true) (.slice ay23 (digs DD Lb).length ky23) (.int .i64 (-(i : Int)))).set3 V5 dcells (.bool true) (.slice ax22 (digs DD La).length kx22) (.int .i64 (-(i : Int)))
    have x4 := (RdD.set3 x3 U3 dcells32 (.bool true) (.slice ay23 (digs DD Lb).length ky23) (.int .i64 (-(i : Int)))).set3 V5 dcells32 (.bool true) (.slice ax22 (digs DD La).length kx22) (.int .i64 (-(i : Int)))
    have y4 := (RdD.set3 y3 U3 dcells32 (.bool true) (.slice ay23 (digs DD Lb).length ky23) (.int .i64 (-(i : Int)))).set3 V5 dcells32 (.bool true) (.slice ax22 (digs DD La).length kx22) (.int .i64 (-(i : Int)))
    have T4 := (T3.set3 (show 2 ≠ bu by omega) (.bool true) (.slice ay23 (digs DD Lb).length ky23) (.int .i64 (-(i : Int)))).set3 (show 2 ≠ bu + 1 by omega) (.bool true) (.slice ax22 (digs DD La).length kx22) (.int .i64 (-(i : Int)))
    have B4 := below_set3b (below_set3b B3 (show w.heap.size ≤ bu by omega) (.bool true) (.slice ay23 (digs DD Lb).length ky23) (.int .i64 (-(i : Int)))) (show w.heap.size ≤ bu + 1 by omega) (.bool true) (.slice ax22 (digs DD La).length kx22) (.int .i64 (-(i : Int)))
    clear U3 V3 W3 V5 f3 g3 x3 y3 T3 B3 kc0 kc1 kc2 kf0 kf1 kf2 cU0 cU1 cU2 fU0 fU1 fU2 cV0 cV1 cV2 fV0 fV1 fV2
    generalize (((((w3.setCell ⟨bu, 0, none⟩ (.bool true)).setCell ⟨bu, 1, none⟩ (.slice ay23 (digs DD Lb).length ky23)).setCell ⟨bu, 2, none⟩ (.int .i64 (-(i : Int)))).setCell ⟨bu + 1, 0, none⟩ (.bool true)).setCell ⟨bu + 1, 1, none⟩ (.slice ax22 (digs DD La).length kx22)).setCell ⟨bu + 1, 2, none⟩ (.int .i64 (-(i : Int))) = w4 at *
    obtain ⟨cU0, cU1, cU2, fU0, fU1, fU2, -⟩ := U4.open3
    obtain ⟨cV0, cV1, cV2, fV0, fV1, fV2, -⟩ := V4.open3
    obtain ⟨cW0, cW1, cW2, cW3, cW4, cW5, fW0, fW1, fW2, fW3, fW4, fW5, -⟩ := W4.open6
    go_wp2_with
    (first
      | (go_at_call 28; (with_reducible refine (HT1.out _ _ y4).mono ?_); rintro e w31 ⟨vp31, rfl, p31, hb31⟩; have B31 := B4.trans (hb31.mono B4.size); have T31 := T4.below hb31; have x31 := x4.below hb31; have y31 := y4.below hb31; have f31 := f4.below hb31; have g31 := g4.below hb31; have U31 := U4.below hb31; have V31 := V4.below hb31; have W31 := W4.below hb31; clear T4 x4 y4 f4 g4 U4 V4 W4; obtain ⟨cU0_31, cU1_31, cU2_31, fU0_31, fU1_31, fU2_31, sU_31⟩ := U31.open3; obtain ⟨cV0_31, cV1_31, cV2_31, fV0_31, fV1_31, fV2_31, sV_31⟩ := V31.open3; obtain ⟨cW0_31, cW1_31, cW2_31, cW3_31, cW4_31, cW5_31, fW0_31, fW1_31, fW2_31, fW3_31, fW4_31, fW5_31, sW_31⟩ := W31.open6; obtain ⟨ap31, kp31, rfl, -⟩ := p31.view; try simp only [List.length_nil] at p31)
      | (go_at_call 28; (with_reducible refine (HT2.out _ _ (x31.below (below_alloc _ _))).mono ?_); rintro e w32 ⟨vq32, rfl, q32, hb32⟩; have hb32' := (below_a hb32); have B32 := B31.trans (hb32'.mono B31.size); have T32 := T31.below hb32'; have x32 := x31.below hb32'; have y32 := y31.below hb32'; have f32 := f31.below hb32'; have g32 := g31.below hb32'; have U32 := U31.below hb32'; have V32 := V31.below hb32'; have W32 := W31.below hb32'; have p32 := p31.below hb32'; clear T31 x31 y31 f31 g31 U31 V31 W31 p31; have P32 := blk_new.below hb32; clear cU0_31 cU1_31 cU2_31 fU0_31 fU1_31 fU2_31 sU_31; obtain ⟨cU0_32, cU1_32, cU2_32, fU0_32, fU1_32, fU2_32, sU_32⟩ := U32.open3; clear cV0_31 cV1_31 cV2_31 fV0_31 fV1_31 fV2_31 sV_31; obtain ⟨cV0_32, cV1_32, cV2_32, fV0_32, fV1_32, fV2_32, sV_32⟩ := V32.open3; clear cW0_31 cW1_31 cW2_31 cW3_31 cW4_31 cW5_31 fW0_31 fW1_31 fW2_31 fW3_31 fW4_31 fW5_31 sW_31; obtain ⟨cW0_32, cW1_32, cW2_32, cW3_32, cW4_32, cW5_32, fW0_32, fW1_32, fW2_32, fW3_32, fW4_32, fW5_32, sW_32⟩ := W32.open6; obtain ⟨cP0_32, cP1_32, cP2_32, fP0_32, fP1_32, fP2_32, sP_32⟩ := P32.open3; obtain ⟨aq32, kq32, rfl, -⟩ := q32.view; try simp only [List.length_nil] at q32)
      | (go_at_call 29; (with_reducible refine (HS1.out _ _ _ (f32.below (below_alloc _ _)) (p32.below (below_alloc _ _))).mono ?_); rintro e w33 ⟨rfl, hb33⟩; have hb33' := (below_a hb33); have B33 := B32.trans (hb33'.mono B32.size); have T33 := T32.below hb33'; have x33 := x32.below hb33'; have y33 := y32.below hb33'; have f33 := f32.below hb33'; have g33 := g32.below hb33'; have U33 := U32.below hb33'; have V33 := V32.below hb33'; have W33 := W32.below hb33'; have p33 := p32.below hb33'; have P33 := P32.below hb33'; have q33 := q32.below hb33'; clear T32 x32 y32 f32 g32 U32 V32 W32 p32 P32 q32; have Q33 := blk_new.below hb33; clear cU0_32 cU1_32 cU2_32 fU0_32 fU1_32 fU2_32 sU_32; obtain ⟨cU0_33, cU1_33, cU2_33, fU0_33, fU1_33, fU2_33, sU_33⟩ := U33.open3; clear cV0_32 cV1_32 cV2_32 fV0_32 fV1_32 fV2_32 sV_32; obtain ⟨cV0_33, cV1_33, cV2_33, fV0_33, fV1_33, fV2_33, sV_33⟩ := V33.open3; clear cW0_32 cW1_32 cW2_32 cW3_32 cW4_32 cW5_32 fW0_32 fW1_32 fW2_32 fW3_32 fW4_32 fW5_32 sW_32; obtain ⟨cW0_33, cW1_33, cW2_33, cW3_33, cW4_33, cW5_33, fW0_33, fW1_33, fW2_33, fW3_33, fW4_33, fW5_33, sW_33⟩ := W33.open6; clear cP0_32 cP1_32 cP2_32 fP0_32 fP1_32 fP2_32 sP_32; obtain ⟨cP0_33, cP1_33, cP2_33, fP0_33, fP1_33, fP2_33, sP_33⟩ := P33.open3; obtain ⟨cQ0_33, cQ1_33, cQ2_33, fQ0_33, fQ1_33, fQ2_33, sQ_33⟩ := Q33.open3)
      | (go_at_call 29; (with_reducible refine (HS2.out _ _ _ g33 q33).mono ?_); rintro e w34 ⟨rfl, hb34⟩; have B34 := B33.trans (hb34.mono B33.size); have T34 := T33.below hb34; have x34 := x33.below hb34; have y34 := y33.below hb34; have f34 := f33.below hb34; have g34 := g33.below hb34; have U34 := U33.below hb34; have V34 := V33.below hb34; have W34 := W33.below hb34; have p34 := p33.below hb34; have P34 := P33.below hb34; have q34 := q33.below hb34; have Q34 := Q33.below hb34; clear T33 x33 y33 f33 g33 U33 V33 W33 p33 P33 q33 Q33; clear cU0_33 cU1_33 cU2_33 fU0_33 fU1_33 fU2_33 sU_33; obtain ⟨cU0_34, cU1_34, cU2_34, fU0_34, fU1_34, fU2_34, sU_34⟩ := U34.open3; clear cV0_33 cV1_33 cV2_33 fV0_33 fV1_33 fV2_33 sV_33; obtain ⟨cV0_34, cV1_34, cV2_34, fV0_34, fV1_34, fV2_34, sV_34⟩ := V34.open3; clear cW0_33 cW1_33 cW2_33 cW3_33 cW4_33 cW5_33 fW0_33 fW1_33 fW2_33 fW3_33 fW4_33 fW5_33 sW_33; obtain ⟨cW0_34, cW1_34, cW2_34, cW3_34, cW4_34, cW5_34, fW0_34, fW1_34, fW2_34, fW3_34, fW4_34, fW5_34, sW_34⟩ := W34.open6; clear cP0_33 cP1_33 cP2_33 fP0_33 fP1_33 fP2_33 sP_33; obtain ⟨cP0_34, cP1_34, cP2_34, fP0_34, fP1_34, fP2_34, sP_34⟩ := P34.open3; clear cQ0_33 cQ1_33 cQ2_33 fQ0_33 fQ1_33 fQ2_33 sQ_33; obtain ⟨cQ0_34, cQ1_34, cQ2_34, fQ0_34, fQ1_34, fQ2_34, sQ_34⟩ := Q34.open3)
      | (go_at_call 30; (with_reducible refine (HCM.out _ _ _ f34 g34 T34).mono ?_); rintro e w35 ⟨rfl, hb35⟩; have B35 := B34.trans (hb35.mono B34.size); have T35 := T34.below hb35; have x35 := x34.below hb35; have y35 := y34.below hb35; have f35 := f34.below hb35; have g35 := g34.below hb35; have U35 := U34.below hb35; have V35 := V34.below hb35; have W35 := W34.below hb35; have p35 := p34.below hb35; have P35 := P34.below hb35; have q35 := q34.below hb35; have Q35 := Q34.below hb35; clear T34 x34 y34 f34 g34 U34 V34 W34 p34 P34 q34 Q34; clear cU0_34 cU1_34 cU2_34 fU0_34 fU1_34 fU2_34 sU_34; obtain ⟨cU0_35, cU1_35, cU2_35, fU0_35, fU1_35, fU2_35, sU_35⟩ := U35.open3; clear cV0_34 cV1_34 cV2_34 fV0_34 fV1_34 fV2_34 sV_34; obtain ⟨cV0_35, cV1_35, cV2_35, fV0_35, fV1_35, fV2_35, sV_35⟩ := V35.open3; clear cW0_34 cW1_34 cW2_34 cW3_34 cW4_34 cW5_34 fW0_34 fW1_34 fW2_34 fW3_34 fW4_34 fW5_34 sW_34; obtain ⟨cW0_35, cW1_35, cW2_35, cW3_35, cW4_35, cW5_35, fW0_35, fW1_35, fW2_35, fW3_35, fW4_35, fW5_35, sW_35⟩ := W35.open6; clear cP0_34 cP1_34 cP2_34 fP0_34 fP1_34 fP2_34 sP_34; obtain ⟨cP0_35, cP1_35, cP2_35, fP0_35, fP1_35, fP2_35, sP_35⟩ := P35.open3; clear cQ0_34 cQ1_34 cQ2_34 fQ0_34 fQ1_34 fQ2_34 sQ_34; obtain ⟨cQ0_35, cQ1_35, cQ2_35, fQ0_35, fQ1_35, fQ2_35, sQ_35⟩ := Q35.open3)
      | fail)
    go_ret
    exact ⟨rfl, by assumption⟩
end Go.Proofs.YtecgimdgmilcbaaDoor.SScales
