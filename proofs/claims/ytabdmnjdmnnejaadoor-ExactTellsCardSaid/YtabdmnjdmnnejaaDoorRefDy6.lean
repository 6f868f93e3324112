/- planimeterref10.Cmp by its contract. Conditions: the numbers are short and above nought. -/
import Derived.Test.YtabdmnjdmnnejaaDoorRefE
import Derived.Test.YtabdmnjdmnnejaaDoorRefPow
namespace Go.Proofs.YtabdmnjdmnnejaaDoor
set_option maxRecDepth 100000
open Go.RowKit Go.ChangeShapes Go.WideShapes

theorem cmpD_pos {A B : Nat} {Ea Eb c : Int} (hA : A ≠ 0) (hB : B ≠ 0) (h : cmpM ⟨false, A, Ea⟩ ⟨false, B, Eb⟩ = c) : cmpD ⟨false, A, Ea⟩ ⟨false, B, Eb⟩ = c := by
  have s1 : signD ⟨false, A, Ea⟩ = 1 := by unfold signD; rw [if_neg hA]; rfl
  have s2 : signD ⟨false, B, Eb⟩ = 1 := by unfold signD; rw [if_neg hB]; rfl
  unfold cmpD
  rw [s1, s2, if_neg (by simp), Int.one_mul]; exact h

set_option maxHeartbeats 2000000 in
theorem RCmp10_n {w : World} {u u2 : Value} {M M2 P Q : Nat} {E E2 m Ep Eq c : Int} {k k1 : Nat} (h : RdD w u (digs DD M)) (h' : RdD w u2 (digs DD M2)) (n1 : M ≠ 0) (n2 : M2 ≠ 0) (hm : m.natAbs = k1) (hm1 : k1 ≤ 9223372036854775807) (hk2 : k ≤ 9223372036854775807)
    (sM : bitN M ≤ 200000) (sM2 : bitN M2 ≤ 200000) (hb1 : bitN M * k1 ≤ 60000) (hb3 : bitN M2 * k ≤ 60000) (hP : M ^ k1 = P) (hQ : M2 ^ k = Q) (hEp : E * k1 = Ep) (hEq : E2 * k = Eq) (bEp : Ep.natAbs ≤ 200000) (bEq : Eq.natAbs ≤ 200000)
    (hc1 : 0 ≤ m → cmpM ⟨false, P, Ep⟩ ⟨false, Q, Eq⟩ = c) (hc2 : m < 0 → cmpM ⟨false, 1, 0⟩ ⟨false, P * Q, Ep + Eq⟩ = c) :
    Calls Tryd.prog 39 #[.agg #[.bool false, u, .int .i64 E], .int .i64 m, .agg #[.bool false, u2, .int .i64 E2], .int .i64 k] w (fun e w' => e = .returned (.int .i64 c) ∧ Below w.heap.size w w') := by
  have P0 : P ≠ 0 := by rw [← hP]; exact fun h => n1 (by have := Nat.pow_eq_zero.1 h; exact this.1)
  have Q0 : Q ≠ 0 := by rw [← hQ]; exact fun h => n2 (by have := Nat.pow_eq_zero.1 h; exact this.1)
  have sP : bitN P ≤ 60001 := by have := bitN_pow_le M k1; rw [hP] at this; omega
  have sQ : bitN Q ≤ 60001 := by have := bitN_pow_le M2 k; rw [hQ] at this; omega
  have RA := Lib.hid (fun w v (h : RdD w v (digs DD M)) => by
    have := RPow_n (neg := false) (E := E) h hP hEp hb1 sM bEp hm1 n1
    rw [Bool.false_and] at this; exact this)
  have RB := Lib.hid (fun w v (h : RdD w v (digs DD M2)) => by
    have := RPow_n (neg := false) (E := E2) h hQ hEq hb3 sM2 bEq hk2 n2
    rw [Bool.false_and] at this; exact this)
  obtain ⟨au, nu, ku, rfl⟩ := h.slice
  obtain ⟨av, nv, kv, rfl⟩ := h'.slice
  clear hP hQ hEp hEq
  by_cases hm0 : 0 ≤ m
  · obtain rfl : m = (k1 : Int) := by omega
    have hc := cmpD_pos P0 Q0 (hc1 hm0)
    have RC := Lib.hid (fun w v u (h : RdD w v (digs DD P)) (k : RdD w u (digs DD Q)) => RCmp_n h k (by omega) (by omega) (by omega) (by omega) (by omega) (by omega) hc)
    have dm : decide (0 ≤ (k1 : Int)) = true := decide_eq_true hm0
    clear hc1 hc2 hc hm hm0
    go_enter Tryd.func39, Tryd.ntmps39
    have B0 : Below w.heap.size w ((w.alloc (.cells #[.bool false, .slice au nu ku, .int .i64 E] 30)).alloc (.cells #[.bool false, .slice av nv kv, .int .i64 E2] 30)) := below_2
    have x0 := h.below B0; have y0 := h'.below B0
    have P0 : Blk ((w.alloc (.cells #[.bool false, .slice au nu ku, .int .i64 E] 30)).alloc (.cells #[.bool false, .slice av nv kv, .int .i64 E2] 30)) w.heap.size #[.bool false, .slice au nu ku, .int .i64 E] := blk_a1
    have Q0 : Blk ((w.alloc (.cells #[.bool false, .slice au nu ku, .int .i64 E] 30)).alloc (.cells #[.bool false, .slice av nv kv, .int .i64 E2] 30)) (w.heap.size + 1) #[.bool false, .slice av nv kv, .int .i64 E2] := blk_a2
    go_upto_region 3 with
    (first
      | (go_at_call 61; (with_reducible refine (RB.out _ _ y0).mono ?_); rintro e w1 ⟨vq1, rfl, q1, hb1⟩; have B1 := B0.trans (hb1.mono B0.size); have x1 := x0.below hb1; have y1 := y0.below hb1; have P1 := P0.below hb1; have Q1 := Q0.below hb1; clear x0 y0 P0 Q0; obtain ⟨cP0_1, cP1_1, cP2_1, fP0_1, fP1_1, fP2_1, sP_1⟩ := P1.open3; obtain ⟨cQ0_1, cQ1_1, cQ2_1, fQ0_1, fQ1_1, fQ2_1, sQ_1⟩ := Q1.open3; obtain ⟨aq1, kq1, rfl, -⟩ := q1.view; try simp only [List.length_nil] at q1)
      | fail)
    have hAR := below_alloc w1 (.cells #[.bool false, .slice aq1 (digs DD Q).length kq1, .int .i64 Eq] 30)
    have R2 : Blk (w1.alloc (.cells #[.bool false, .slice aq1 (digs DD Q).length kq1, .int .i64 Eq] 30)) w1.heap.size #[.bool false, .slice aq1 (digs DD Q).length kq1, .int .i64 Eq] := blk_new
    have x2 := x1.below hAR; have q2 := q1.below hAR; have P2 := P1.below hAR
    have B2 := B1.trans (hAR.mono B1.size)
    clear cP0_1 cP1_1 cP2_1 fP0_1 fP1_1 fP2_1 sP_1 cQ0_1 cQ1_1 cQ2_1 fQ0_1 fQ1_1 fQ2_1 sQ_1 P1 Q1 x1 y1 q1 hAR hb1 B1
    generalize w1.alloc (.cells #[.bool false, .slice aq1 (digs DD Q).length kq1, .int .i64 Eq] 30) = w2 at *
    generalize w1.heap.size = br at *
    have hAD : Below w2.heap.size w2 w2.drew := below_drewN (Below.refl _ _) 1
    have x3 := x2.below hAD; have q3 := q2.below hAD; have P3 := P2.below hAD; have R3 := R2.below hAD
    have B3 := B2.trans (hAD.mono B2.size)
    obtain ⟨cP0_3, cP1_3, cP2_3, fP0_3, fP1_3, fP2_3, sP_3⟩ := P3.open3
    obtain ⟨cR0_3, cR1_3, cR2_3, fR0_3, fR1_3, fR2_3, sR_3⟩ := R3.open3
    go_region_held3 (fun w' => (w'.cell? ⟨w.heap.size, 0, none⟩ = some (.bool false) ∧ w'.cell? ⟨w.heap.size, 1, none⟩ = some (.slice au nu ku) ∧ w'.cell? ⟨w.heap.size, 2, none⟩ = some (.int .i64 E)) ∧ w'.cell? ⟨br, 0, none⟩ = some (.bool false) ∧ w'.cell? ⟨br, 1, none⟩ = some (.slice aq1 (digs DD Q).length kq1) ∧ w'.cell? ⟨br, 2, none⟩ = some (.int .i64 Eq)) (first | with_reducible exact ⟨⟨cP0_3, cP1_3, cP2_3⟩, cR0_3, cR1_3, cR2_3⟩ | with_reducible exact ⟨⟨cP0_4, cP1_4, cP2_4⟩, cR0_4, cR1_4, cR2_4⟩ | with_reducible exact ⟨⟨cP0_5, cP1_5, cP2_5⟩, cR0_5, cR1_5, cR2_5⟩)
    (first
      | (go_at_call 61; (with_reducible refine (RA.out _ _ x3).mono ?_); rintro e w4 ⟨vp4, rfl, p4, hb4⟩; have B4 := B3.trans (hb4.mono B3.size); have x4 := x3.below hb4; have q4 := q3.below hb4; have P4 := P3.below hb4; have R4 := R3.below hb4; clear x3 q3 P3 R3; obtain ⟨cP0_4, cP1_4, cP2_4, fP0_4, fP1_4, fP2_4, sP_4⟩ := P4.open3; obtain ⟨cR0_4, cR1_4, cR2_4, fR0_4, fR1_4, fR2_4, sR_4⟩ := R4.open3; obtain ⟨ap4, kp4, rfl, -⟩ := p4.view; try simp only [List.length_nil] at p4)
      | (go_at_call 25; (with_reducible refine (RC.out _ _ _ p4 q4).mono ?_); rintro e w5 ⟨rfl, hb5⟩; have B5 := B4.trans (hb5.mono B4.size); have x5 := x4.below hb5; have q5 := q4.below hb5; have P5 := P4.below hb5; have R5 := R4.below hb5; have p5 := p4.below hb5; clear x4 q4 P4 R4 p4; clear cP0_4 cP1_4 cP2_4 fP0_4 fP1_4 fP2_4 sP_4; obtain ⟨cP0_5, cP1_5, cP2_5, fP0_5, fP1_5, fP2_5, sP_5⟩ := P5.open3; clear cR0_4 cR1_4 cR2_4 fR0_4 fR1_4 fR2_4 sR_4; obtain ⟨cR0_5, cR1_5, cR2_5, fR0_5, fR1_5, fR2_5, sR_5⟩ := R5.open3)
      | fail)
    all_goals
      go_wp2_with fail
      go_ret
      exact ⟨rfl, by assumption⟩
  · have hw : IntKind.i64.wrap (-m) = (k1 : Int) := by rw [IntKind.wrap_i64]; omega
    have dm : decide (0 ≤ m) = false := decide_eq_false hm0
    have hPQ : P * Q ≠ 0 := Nat.mul_ne_zero P0 Q0
    have sPQ : bitN (P * Q) ≤ 200000 := by have := bitN_mul_le P Q; omega
    have hc := cmpD_pos (show 1 ≠ 0 by decide) hPQ (hc2 (by omega))
    have d1 : digs DD 1 = [1] := by rw [digs_pos DD_two (by omega)]; rfl
    have RC := Lib.hid (fun w v u (h : RdD w v [1]) (k : RdD w u (digs DD (P * Q))) => RCmp_n (M := 1) (by rw [d1]; exact h) k (by rw [bitN_one]; omega) (by omega) (by omega) (by omega) (by omega) (by omega) hc)
    have RM := Lib.hid (fun w v u (h : RdD w v (digs DD P)) (k : RdD w u (digs DD Q)) => rmul_n h k rfl (by omega) (by omega))
    have hwe : IntKind.i64.wrap (Ep + Eq) = Ep + Eq := by rw [IntKind.wrap_i64]; omega
    clear hc1 hc2 hc hm
    go_enter Tryd.func39, Tryd.ntmps39
    have B0 : Below w.heap.size w ((w.alloc (.cells #[.bool false, .slice au nu ku, .int .i64 E] 30)).alloc (.cells #[.bool false, .slice av nv kv, .int .i64 E2] 30)) := below_2
    have x0 := h.below B0; have y0 := h'.below B0
    have P0 : Blk ((w.alloc (.cells #[.bool false, .slice au nu ku, .int .i64 E] 30)).alloc (.cells #[.bool false, .slice av nv kv, .int .i64 E2] 30)) w.heap.size #[.bool false, .slice au nu ku, .int .i64 E] := blk_a1
    have Q0 : Blk ((w.alloc (.cells #[.bool false, .slice au nu ku, .int .i64 E] 30)).alloc (.cells #[.bool false, .slice av nv kv, .int .i64 E2] 30)) (w.heap.size + 1) #[.bool false, .slice av nv kv, .int .i64 E2] := blk_a2
    go_upto_region 6 with
    (first
      | (go_at_call 61; (with_reducible refine (RB.out _ _ y0).mono ?_); rintro e w1 ⟨vq1, rfl, q1, hb1⟩; have B1 := B0.trans (hb1.mono B0.size); have x1 := x0.below hb1; have y1 := y0.below hb1; have P1 := P0.below hb1; have Q1 := Q0.below hb1; clear x0 y0 P0 Q0; obtain ⟨cP0_1, cP1_1, cP2_1, fP0_1, fP1_1, fP2_1, sP_1⟩ := P1.open3; obtain ⟨cQ0_1, cQ1_1, cQ2_1, fQ0_1, fQ1_1, fQ2_1, sQ_1⟩ := Q1.open3; obtain ⟨aq1, kq1, rfl, -⟩ := q1.view; try simp only [List.length_nil] at q1)
      | (go_at_call 61; (with_reducible refine (RA.out _ _ (x1.below (below_alloc _ _))).mono ?_); rintro e w2 ⟨vp2, rfl, p2, hb2⟩; have hb2' := (below_a hb2); have B2 := B1.trans (hb2'.mono B1.size); have x2 := x1.below hb2'; have y2 := y1.below hb2'; have P2 := P1.below hb2'; have Q2 := Q1.below hb2'; have q2 := q1.below hb2'; clear x1 y1 P1 Q1 q1; have R2 := blk_new.below hb2; clear cP0_1 cP1_1 cP2_1 fP0_1 fP1_1 fP2_1 sP_1; obtain ⟨cP0_2, cP1_2, cP2_2, fP0_2, fP1_2, fP2_2, sP_2⟩ := P2.open3; clear cQ0_1 cQ1_1 cQ2_1 fQ0_1 fQ1_1 fQ2_1 sQ_1; obtain ⟨cQ0_2, cQ1_2, cQ2_2, fQ0_2, fQ1_2, fQ2_2, sQ_2⟩ := Q2.open3; obtain ⟨cR0_2, cR1_2, cR2_2, fR0_2, fR1_2, fR2_2, sR_2⟩ := R2.open3; obtain ⟨ap2, kp2, rfl, -⟩ := p2.view; try simp only [List.length_nil] at p2)
      | fail)
    have S3 : Blk (((w2.alloc (.cells #[.bool false, .slice ap2 (digs DD P).length kp2, .int .i64 Ep] 30)).alloc (.cells #[.int .u32 1] 62)).alloc (.cells #[.bool false, .slice (some ⟨w2.heap.size + 1, 0, none⟩) 1 1, .int .i64 0] 30)) w2.heap.size #[.bool false, .slice ap2 (digs DD P).length kp2, .int .i64 Ep] := blk3a
    have O3 : Blk (((w2.alloc (.cells #[.bool false, .slice ap2 (digs DD P).length kp2, .int .i64 Ep] 30)).alloc (.cells #[.int .u32 1] 62)).alloc (.cells #[.bool false, .slice (some ⟨w2.heap.size + 1, 0, none⟩) 1 1, .int .i64 0] 30)) (w2.heap.size + 1 + 1) #[.bool false, .slice (some ⟨w2.heap.size + 1, 0, none⟩) 1 1, .int .i64 0] := blk3c
    have l3 : RdD (((w2.alloc (.cells #[.bool false, .slice ap2 (digs DD P).length kp2, .int .i64 Ep] 30)).alloc (.cells #[.int .u32 1] 62)).alloc (.cells #[.bool false, .slice (some ⟨w2.heap.size + 1, 0, none⟩) 1 1, .int .i64 0] 30)) (.slice (some ⟨w2.heap.size + 1, 0, none⟩) 1 1) [1] := (RdD.below (rd_one (heap_new2 _ _ _) trivial) (below_alloc _ _))
    have hA3 : Below w2.heap.size w2 (((w2.alloc (.cells #[.bool false, .slice ap2 (digs DD P).length kp2, .int .i64 Ep] 30)).alloc (.cells #[.int .u32 1] 62)).alloc (.cells #[.bool false, .slice (some ⟨w2.heap.size + 1, 0, none⟩) 1 1, .int .i64 0] 30)) := below3
    have p3 := p2.below hA3; have q3 := q2.below hA3; have R3 := R2.below hA3
    have B3 := B2.trans (hA3.mono B2.size)
    clear cP0_2 cP1_2 cP2_2 fP0_2 fP1_2 fP2_2 sP_2 cQ0_2 cQ1_2 cQ2_2 fQ0_2 fQ1_2 fQ2_2 sQ_2 P2 Q2 x2 y2 q2 hA3 hb2 B2 cR0_2 cR1_2 cR2_2 fR0_2 fR1_2 fR2_2 sR_2 R2 p2
    generalize (((w2.alloc (.cells #[.bool false, .slice ap2 (digs DD P).length kp2, .int .i64 Ep] 30)).alloc (.cells #[.int .u32 1] 62)).alloc (.cells #[.bool false, .slice (some ⟨w2.heap.size + 1, 0, none⟩) 1 1, .int .i64 0] 30)) = w3 at *
    generalize w2.heap.size + 1 + 1 = bo at *
    generalize w2.heap.size + 1 = bl at *
    generalize w2.heap.size = bp at *
    generalize w1.heap.size = br at *
    have hAD : Below w3.heap.size w3 w3.drew := below_drewN (Below.refl _ _) 1
    have p4 := p3.below hAD; have q4 := q3.below hAD; have l4 := l3.below hAD; have S4 := S3.below hAD; have R4 := R3.below hAD; have O4 := O3.below hAD
    have B4 := B3.trans (hAD.mono B3.size)
    obtain ⟨cS0_4, cS1_4, cS2_4, fS0_4, fS1_4, fS2_4, sS_4⟩ := S4.open3
    obtain ⟨cO0_4, cO1_4, cO2_4, fO0_4, fO1_4, fO2_4, sO_4⟩ := O4.open3
    obtain ⟨cR0_4, cR1_4, cR2_4, fR0_4, fR1_4, fR2_4, sR_4⟩ := R4.open3
    go_region_held3 (fun w' => (w'.cell? ⟨bp, 0, none⟩ = some (.bool false) ∧ w'.cell? ⟨bp, 1, none⟩ = some (.slice ap2 (digs DD P).length kp2) ∧ w'.cell? ⟨bp, 2, none⟩ = some (.int .i64 Ep)) ∧ (w'.cell? ⟨br, 0, none⟩ = some (.bool false) ∧ w'.cell? ⟨br, 1, none⟩ = some (.slice aq1 (digs DD Q).length kq1) ∧ w'.cell? ⟨br, 2, none⟩ = some (.int .i64 Eq)) ∧ w'.cell? ⟨bo, 0, none⟩ = some (.bool false) ∧ w'.cell? ⟨bo, 1, none⟩ = some (.slice (some ⟨bl, 0, none⟩) 1 1) ∧ w'.cell? ⟨bo, 2, none⟩ = some (.int .i64 0)) (first | with_reducible exact ⟨⟨cS0_4, cS1_4, cS2_4⟩, ⟨cR0_4, cR1_4, cR2_4⟩, cO0_4, cO1_4, cO2_4⟩ | with_reducible exact ⟨⟨cS0_5, cS1_5, cS2_5⟩, ⟨cR0_5, cR1_5, cR2_5⟩, cO0_5, cO1_5, cO2_5⟩ | with_reducible exact ⟨⟨cS0_6, cS1_6, cS2_6⟩, ⟨cR0_6, cR1_6, cR2_6⟩, cO0_6, cO1_6, cO2_6⟩)
    (first
      | (go_at_call 62; (with_reducible refine (RM.out _ _ _ p4 q4).mono ?_); rintro e w5 ⟨vt5, rfl, t5, hb5⟩; have B5 := B4.trans (hb5.mono B4.size); have p5 := p4.below hb5; have q5 := q4.below hb5; have l5 := l4.below hb5; have S5 := S4.below hb5; have R5 := R4.below hb5; have O5 := O4.below hb5; clear p4 q4 l4 S4 R4 O4; obtain ⟨cS0_5, cS1_5, cS2_5, fS0_5, fS1_5, fS2_5, sS_5⟩ := S5.open3; obtain ⟨cR0_5, cR1_5, cR2_5, fR0_5, fR1_5, fR2_5, sR_5⟩ := R5.open3; obtain ⟨cO0_5, cO1_5, cO2_5, fO0_5, fO1_5, fO2_5, sO_5⟩ := O5.open3; obtain ⟨at5, kt5, rfl, -⟩ := t5.view; try simp only [List.length_nil] at t5)
      | (go_at_call 25; (with_reducible refine (RC.out _ _ _ l5 t5).mono ?_); rintro e w6 ⟨rfl, hb6⟩; have B6 := B5.trans (hb6.mono B5.size); have p6 := p5.below hb6; have q6 := q5.below hb6; have l6 := l5.below hb6; have S6 := S5.below hb6; have R6 := R5.below hb6; have O6 := O5.below hb6; have t6 := t5.below hb6; clear p5 q5 l5 S5 R5 O5 t5; clear cS0_5 cS1_5 cS2_5 fS0_5 fS1_5 fS2_5 sS_5; obtain ⟨cS0_6, cS1_6, cS2_6, fS0_6, fS1_6, fS2_6, sS_6⟩ := S6.open3; clear cR0_5 cR1_5 cR2_5 fR0_5 fR1_5 fR2_5 sR_5; obtain ⟨cR0_6, cR1_6, cR2_6, fR0_6, fR1_6, fR2_6, sR_6⟩ := R6.open3; clear cO0_5 cO1_5 cO2_5 fO0_5 fO1_5 fO2_5 sO_5; obtain ⟨cO0_6, cO1_6, cO2_6, fO0_6, fO1_6, fO2_6, sO_6⟩ := O6.open3)
      | fail)
    all_goals
      go_wp2_with fail
      go_ret
      exact ⟨rfl, by assumption⟩
end Go.Proofs.YtabdmnjdmnnejaaDoor
