/- planimeterref05.Sign, Add by their contracts. Conditions: the numbers are short. -/
import Derived.Test.YtflkemcoomgoiaaDoorRatA
import Derived.Test.YtflkemcoomgoiaaDoorDyC
import Derived.Test.YtflkemcoomgoiaaDoorRefC
import Derived.Test.YtflkemcoomgoiaaDoorRefB
import Derived.Deep.RegionHeld3
import Derived.Deep.CutBlock
namespace Go.Proofs.YtflkemcoomgoiaaDoor
set_option maxRecDepth 100000
open Go.RowKit Go.ChangeShapes Go.WideShapes

theorem RSign_n {w : World} {u : Value} {neg : Bool} {M : Nat} {E s : Int} (h : RdD w u (digs DD M)) (hs : signD ⟨neg, M, E⟩ = s) :
    Calls Tryd.prog 23 #[.agg #[.bool neg, u, .int .i64 E]] w (fun e w' => e = .returned (.int .i64 s) ∧ Below w.heap.size w w') := by
  obtain ⟨a, k, rfl, -⟩ := h.view
  unfold signD at hs
  by_cases h0 : M = 0
  · subst h0
    rw [if_pos rfl] at hs
    subst hs
    rw [digs_zero] at *
    go_enter Tryd.func23, Tryd.ntmps23
    go_wp2
    all_goals
      go_ret
      exact ⟨rfl, below_alloc _ _⟩
  · rw [if_neg h0] at hs
    have hsn : digs DD M ≠ [] := fun e => h0 ((digs_nil_iff DD_two _).1 e)
    have hsi : ((digs DD M).length : Int) ≠ 0 := by have := List.length_pos_iff.2 hsn; omega
    cases neg
    · rw [if_neg (by simp)] at hs
      subst hs
      go_enter Tryd.func23, Tryd.ntmps23
      go_wp2
      all_goals
        go_ret
        exact ⟨rfl, below_alloc _ _⟩
    · rw [if_pos rfl] at hs
      subst hs
      go_enter Tryd.func23, Tryd.ntmps23
      go_wp2
      all_goals
        go_ret
        exact ⟨rfl, below_alloc _ _⟩

theorem RAdd_zl {w : World} {u u2 : Value} {neg neg2 : Bool} {M2 : Nat} {E E2 : Int} (h : RdD w u (digs DD 0)) (k : RdD w u2 (digs DD M2)) :
    Calls Tryd.prog 25 #[.agg #[.bool neg, u, .int .i64 E], .agg #[.bool neg2, u2, .int .i64 E2]] w (fun e w' => ∃ v, e = .returned (.agg #[.bool neg2, v, .int .i64 E2]) ∧ RdD w' v (digs DD M2) ∧ Below w.heap.size w w') := by
  rw [digs_zero] at h
  obtain ⟨au, ku, rfl, -⟩ := h.view
  rw [List.length_nil] at *
  obtain ⟨av, nv, kv, rfl⟩ := k.slice
  go_enter Tryd.func25, Tryd.ntmps25
  go_wp2_with fail
  refine bodyPost_ret (v := .agg #[.bool neg2, .slice av nv kv, .int .i64 E2]) ?_ rfl ?_
  · simp [results, Tryd.results25, go_sem]
  · exact ⟨_, rfl, k.below below3, below3⟩

theorem RAdd_zr {w : World} {u u2 : Value} {neg neg2 : Bool} {M : Nat} {E E2 : Int} (h : RdD w u (digs DD M)) (k : RdD w u2 (digs DD 0)) (h0 : M ≠ 0) :
    Calls Tryd.prog 25 #[.agg #[.bool neg, u, .int .i64 E], .agg #[.bool neg2, u2, .int .i64 E2]] w (fun e w' => ∃ v, e = .returned (.agg #[.bool neg, v, .int .i64 E]) ∧ RdD w' v (digs DD M) ∧ Below w.heap.size w w') := by
  rw [digs_zero] at k
  obtain ⟨av, kv, rfl, -⟩ := k.view
  rw [List.length_nil] at *
  obtain ⟨au, ku, rfl, -⟩ := h.view
  have hsn : digs DD M ≠ [] := fun e => h0 ((digs_nil_iff DD_two _).1 e)
  have hsi : ((digs DD M).length : Int) ≠ 0 := by have := List.length_pos_iff.2 hsn; omega
  go_enter Tryd.func25, Tryd.ntmps25
  go_wp2_with fail
  refine bodyPost_ret (v := .agg #[.bool neg, .slice au (digs DD M).length ku, .int .i64 E]) ?_ rfl ?_
  · simp [results, Tryd.results25, go_sem]
  · exact ⟨_, rfl, h.below below3, below3⟩

set_option maxHeartbeats 1000000 in
theorem RAdd_n {w : World} {u u2 : Value} {neg neg2 n3 : Bool} {M M2 M3 X Y s1 s2 : Nat} {E E2 low : Int} (h : RdD w u (digs DD M)) (k : RdD w u2 (digs DD M2)) (h0 : M ≠ 0) (h0' : M2 ≠ 0) (hlow : min E E2 = low) (hs1 : E - low = s1) (hs2 : E2 - low = s2)
    (hX : M * 2 ^ s1 = X) (hY : M2 * 2 ^ s2 = Y) (b1 : bitN M + s1 ≤ 200000) (b2 : bitN M2 + s2 ≤ 200000) (hr : addR neg neg2 X Y = (n3, M3)) :
    Calls Tryd.prog 25 #[.agg #[.bool neg, u, .int .i64 E], .agg #[.bool neg2, u2, .int .i64 E2]] w (fun e w' => ∃ v, e = .returned (.agg #[.bool n3, v, .int .i64 low]) ∧ RdD w' v (digs DD M3) ∧ Below w.heap.size w w') := by
  obtain ⟨au, ku, rfl, -⟩ := h.view
  obtain ⟨av, kv, rfl, -⟩ := k.view
  have hsn : digs DD M ≠ [] := fun e => h0 ((digs_nil_iff DD_two _).1 e)
  have hsi : ((digs DD M).length : Int) ≠ 0 := by have := List.length_pos_iff.2 hsn; omega
  have hsn2 : digs DD M2 ≠ [] := fun e => h0' ((digs_nil_iff DD_two _).1 e)
  have hsi2 : ((digs DD M2).length : Int) ≠ 0 := by have := List.length_pos_iff.2 hsn2; omega
  have X0 : X ≠ 0 := by rw [← hX]; exact Nat.mul_ne_zero h0 (Nat.ne_of_gt (Nat.pow_pos (by omega)))
  have Y0 : Y ≠ 0 := by rw [← hY]; exact Nat.mul_ne_zero h0' (Nat.ne_of_gt (Nat.pow_pos (by omega)))
  have bX : bitN X ≤ 200000 := by rw [← hX, bitN_shift h0]; exact b1
  have bY : bitN Y ≤ 200000 := by rw [← hY, bitN_shift h0']; exact b2
  have lX : (digs DD X).length ≤ 1000000 := Nat.le_trans (digsDlen (show bitN X ≤ 400000 by omega)) (by omega)
  have lY : (digs DD Y).length ≤ 1000000 := Nat.le_trans (digsDlen (show bitN Y ≤ 400000 by omega)) (by omega)
  have hw1 : IntKind.i64.wrap (s1 : Int) = (s1 : Int) := by rw [IntKind.wrap_i64]; omega
  have hw2 : IntKind.i64.wrap (s2 : Int) = (s2 : Int) := by rw [IntKind.wrap_i64]; omega
  have hwz : IntKind.i64.wrap 0 = 0 := by rw [IntKind.wrap_i64]; omega
  have hS1 := Lib.hid (fun w v (h : RdD w v (digs DD M)) => by
    have := rshl_n h b1
    rw [hX] at this; exact this)
  have hS2 := Lib.hid (fun w v (h : RdD w v (digs DD M2)) => by
    have := rshl_n h b2
    rw [hY] at this; exact this)
  have hA := Lib.hid (fun w v u (h : RdD w v (digs DD X)) (k : RdD w u (digs DD Y)) => radd_n h k rfl (by omega) (by omega))
  have hC := Lib.hid (fun w v u (h : RdD w v (digs DD X)) (k : RdD w u (digs DD Y)) => rcmp_n h k rfl (by omega))
  have hM1 := Lib.hid (fun (hle : Y ≤ X) w v u (h : RdD w v (digs DD X)) (k : RdD w u (digs DD Y)) => rsub_any h k lX hle (by omega))
  have hM2 := Lib.hid (fun (hle : X ≤ Y) w v u (h : RdD w v (digs DD Y)) (k : RdD w u (digs DD X)) => rsub_any h k lY hle (by omega))
  clear bX bY lX lY hX hY b1 b2
  have hlt : (decide (E2 < E) = true ∧ E2 = low) ∨ (decide (E2 < E) = false ∧ E = low) := by
    by_cases h : E2 < E
    · exact .inl ⟨decide_eq_true h, by omega⟩
    · exact .inr ⟨decide_eq_false h, by omega⟩
  clear hlow
  unfold addR at hr
  rcases hlt with ⟨hlt, rfl⟩ | ⟨hlt, rfl⟩
  · have es2 : s2 = 0 := by omega
    subst es2
    have hS2 : RowKit.Hid (∀ w v, RdD w v (digs DD M2) → Calls Tryd.prog 46 #[v, .int .i64 0] w (OneD w (digs DD Y))) := hS2
    go_enter Tryd.func25, Tryd.ntmps25
    go_upto_region 8 with fail
    have P0 : Blk (((w.alloc (.cells #[.bool neg, .slice au (digs DD M).length ku, .int .i64 E] 31)).alloc (.cells #[.bool neg2, .slice av (digs DD M2).length kv, .int .i64 E2] 31)).alloc (.cells #[.bool false, .slice none 0 0, .int .i64 0] 31)) w.heap.size #[.bool neg, .slice au (digs DD M).length ku, .int .i64 E] := blk3a
    have Q0 : Blk (((w.alloc (.cells #[.bool neg, .slice au (digs DD M).length ku, .int .i64 E] 31)).alloc (.cells #[.bool neg2, .slice av (digs DD M2).length kv, .int .i64 E2] 31)).alloc (.cells #[.bool false, .slice none 0 0, .int .i64 0] 31)) (w.heap.size + 1) #[.bool neg2, .slice av (digs DD M2).length kv, .int .i64 E2] := blk3b
    have R0 : Blk (((w.alloc (.cells #[.bool neg, .slice au (digs DD M).length ku, .int .i64 E] 31)).alloc (.cells #[.bool neg2, .slice av (digs DD M2).length kv, .int .i64 E2] 31)).alloc (.cells #[.bool false, .slice none 0 0, .int .i64 0] 31)) (w.heap.size + 1 + 1) #[.bool false, .slice none 0 0, .int .i64 0] := blk3c
    have B0 : Below w.heap.size w (((w.alloc (.cells #[.bool neg, .slice au (digs DD M).length ku, .int .i64 E] 31)).alloc (.cells #[.bool neg2, .slice av (digs DD M2).length kv, .int .i64 E2] 31)).alloc (.cells #[.bool false, .slice none 0 0, .int .i64 0] 31)) := below3
    have x0 := h.below B0; have y0 := k.below B0
    generalize (((w.alloc (.cells #[.bool neg, .slice au (digs DD M).length ku, .int .i64 E] 31)).alloc (.cells #[.bool neg2, .slice av (digs DD M2).length kv, .int .i64 E2] 31)).alloc (.cells #[.bool false, .slice none 0 0, .int .i64 0] 31)) = w0 at *
    have n02 : w.heap.size ≠ w.heap.size + 1 + 1 := by omega
    have n12 : w.heap.size + 1 ≠ w.heap.size + 1 + 1 := by omega
    go_cut [6, 7] (fun v6 v7 w' => ∃ a6 k6 a7 k7, v6 = .slice a6 (digs DD X).length k6 ∧ v7 = .slice a7 (digs DD Y).length k7 ∧ RdD w' (.slice a6 (digs DD X).length k6) (digs DD X) ∧ RdD w' (.slice a7 (digs DD Y).length k7) (digs DD Y) ∧ Blk w' w.heap.size #[.bool neg, .slice au (digs DD M).length ku, .int .i64 E] ∧ Blk w' (w.heap.size + 1) #[.bool neg2, .slice av (digs DD M2).length kv, .int .i64 E2] ∧ Blk w' (w.heap.size + 1 + 1) #[.bool false, .slice none 0 0, .int .i64 0] ∧ Below w.heap.size w w')
    case first =>
      have hAD : Below w0.heap.size w0 w0.drew := below_drewN (Below.refl _ _) 1
      have x9 := x0.below hAD; have y9 := y0.below hAD; have P9 := P0.below hAD; have Q9 := Q0.below hAD; have R9 := R0.below hAD
      have B9 := B0.trans (hAD.mono B0.size)
      obtain ⟨cP0, cP1, cP2, fP0, fP1, fP2, sP⟩ := P9.open3
      obtain ⟨cQ0, cQ1, cQ2, fQ0, fQ1, fQ2, sQ⟩ := Q9.open3
      go_region_held3 (fun w' => (w'.cell? ⟨w.heap.size, 0, none⟩ = some (.bool neg) ∧ w'.cell? ⟨w.heap.size, 1, none⟩ = some (.slice au (digs DD M).length ku) ∧ w'.cell? ⟨w.heap.size, 2, none⟩ = some (.int .i64 E)) ∧ w'.cell? ⟨w.heap.size + 1, 0, none⟩ = some (.bool neg2) ∧ w'.cell? ⟨w.heap.size + 1, 1, none⟩ = some (.slice av (digs DD M2).length kv) ∧ w'.cell? ⟨w.heap.size + 1, 2, none⟩ = some (.int .i64 E2)) (first | with_reducible exact ⟨⟨cP0, cP1, cP2⟩, cQ0, cQ1, cQ2⟩ | with_reducible exact ⟨⟨cP0_10, cP1_10, cP2_10⟩, cQ0_10, cQ1_10, cQ2_10⟩ | with_reducible exact ⟨⟨cP0_11, cP1_11, cP2_11⟩, cQ0_11, cQ1_11, cQ2_11⟩)
      (first
        | (go_at_call 46; (with_reducible refine (hS1.out _ _ x9).mono ?_); rintro e w10 ⟨vp10, rfl, p10, hb10⟩; have B10 := B9.trans (hb10.mono B9.size); have x10 := x9.below hb10; have y10 := y9.below hb10; have P10 := P9.below hb10; have Q10 := Q9.below hb10; have R10 := R9.below hb10; clear x9 y9 P9 Q9 R9; obtain ⟨cP0_10, cP1_10, cP2_10, fP0_10, fP1_10, fP2_10, sP_10⟩ := P10.open3; obtain ⟨cQ0_10, cQ1_10, cQ2_10, fQ0_10, fQ1_10, fQ2_10, sQ_10⟩ := Q10.open3; obtain ⟨cR0_10, cR1_10, cR2_10, fR0_10, fR1_10, fR2_10, sR_10⟩ := R10.open3; obtain ⟨ap10, kp10, rfl, -⟩ := p10.view; try simp only [List.length_nil] at p10)
        | (go_at_call 46; (with_reducible refine (hS2.out _ _ y10).mono ?_); rintro e w11 ⟨vq11, rfl, q11, hb11⟩; have B11 := B10.trans (hb11.mono B10.size); have x11 := x10.below hb11; have y11 := y10.below hb11; have P11 := P10.below hb11; have Q11 := Q10.below hb11; have R11 := R10.below hb11; have p11 := p10.below hb11; clear x10 y10 P10 Q10 R10 p10; clear cP0_10 cP1_10 cP2_10 fP0_10 fP1_10 fP2_10 sP_10; obtain ⟨cP0_11, cP1_11, cP2_11, fP0_11, fP1_11, fP2_11, sP_11⟩ := P11.open3; clear cQ0_10 cQ1_10 cQ2_10 fQ0_10 fQ1_10 fQ2_10 sQ_10; obtain ⟨cQ0_11, cQ1_11, cQ2_11, fQ0_11, fQ1_11, fQ2_11, sQ_11⟩ := Q11.open3; clear cR0_10 cR1_10 cR2_10 fR0_10 fR1_10 fR2_10 sR_10; obtain ⟨cR0_11, cR1_11, cR2_11, fR0_11, fR1_11, fR2_11, sR_11⟩ := R11.open3; obtain ⟨aq11, kq11, rfl, -⟩ := q11.view; try simp only [List.length_nil] at q11)
        | fail)
      all_goals
        go_wp2_with fail
        go_meet
        exact ⟨_, _, _, _, rfl, rfl, p11, q11, P11, Q11, R11, B11⟩
    case rest =>
      obtain ⟨ax, kx, ay, ky, rfl, rfl, x1, y1, P1, Q1, R1, B1⟩ := hcut
      clear P0 Q0 R0 B0 x0 y0 hlt
      generalize hw1x : wc = w1 at *
      clear hw1x
      obtain ⟨cP0_1, cP1_1, cP2_1, fP0_1, fP1_1, fP2_1, sP_1⟩ := P1.open3
      obtain ⟨cQ0_1, cQ1_1, cQ2_1, fQ0_1, fQ1_1, fQ2_1, sQ_1⟩ := Q1.open3
      by_cases hn : neg = neg2
      · subst hn
        rw [if_pos rfl] at hr
        injection hr with g1 g2
        subst g1 g2
        go_upto_region 10 with fail
        have hAD : Below w1.heap.size w1 w1.drew := below_drewN (Below.refl _ _) 1
        have PD := P1.below hAD; have QD := Q1.below hAD; have RD := R1.below hAD; have xD := x1.below hAD; have yD := y1.below hAD
        have BD := B1.trans (hAD.mono B1.size)
        obtain ⟨cD0, cD1, cD2, fD0, fD1, fD2, sD⟩ := PD.open3
        obtain ⟨cE0, cE1, cE2, fE0, fE1, fE2, sE⟩ := QD.open3
        go_region_held3 (fun w' => (w'.cell? ⟨w.heap.size, 0, none⟩ = some (.bool neg) ∧ w'.cell? ⟨w.heap.size, 1, none⟩ = some (.slice au (digs DD M).length ku) ∧ w'.cell? ⟨w.heap.size, 2, none⟩ = some (.int .i64 E)) ∧ w'.cell? ⟨w.heap.size + 1, 0, none⟩ = some (.bool neg) ∧ w'.cell? ⟨w.heap.size + 1, 1, none⟩ = some (.slice av (digs DD M2).length kv) ∧ w'.cell? ⟨w.heap.size + 1, 2, none⟩ = some (.int .i64 E2)) (first | with_reducible exact ⟨⟨cD0, cD1, cD2⟩, cE0, cE1, cE2⟩ | with_reducible exact ⟨⟨cF.1, cF.2.1, cF.2.2.1⟩, cH.1, cH.2.1, cH.2.2.1⟩ | with_reducible exact ⟨⟨(cG _ _ _).1, (cG _ _ _).2.1, (cG _ _ _).2.2.1⟩, (cI _ _ _).1, (cI _ _ _).2.1, (cI _ _ _).2.2.1⟩)
          (first
            | (go_at_call 47; (with_reducible refine (hA.out _ _ _ xD yD).mono ?_); rintro e wf ⟨v3, rfl, z3, hb3⟩; have P3 := PD.below hb3; have Q3 := QD.below hb3; have R3 := RD.below hb3; have cF := P3.open3; have cH := Q3.open3; have cG := fun x y z => (P3.other3 n02 x y z).open3; have cI := fun x y z => (Q3.other3 n12 x y z).open3; obtain ⟨cR0, cR1, cR2, fR0, fR1, fR2, sR⟩ := R3.open3; obtain ⟨a3, k3, rfl, -⟩ := z3.view)
            | fail)
        all_goals
          go_wp2_with fail
          obtain ⟨q0, q1, q2, -⟩ := (R3.set3 (.bool neg) (.slice a3 (digs DD (X + Y)).length k3) (.int .i64 E2)).open3
          refine bodyPost_ret (v := .agg #[.bool neg, .slice a3 (digs DD (X + Y)).length k3, .int .i64 E2]) ?_ rfl ?_
          · simp [results, Tryd.results25, go_sem, q0, q1, q2]
          · exact ⟨_, rfl, z3.set3 R3 dcells32 _ _ _, below_set3b (BD.trans (hb3.mono BD.size)) (by omega) _ _ _⟩
      · have hbb : (neg == neg2) = false := beq_false_of_ne hn
        rw [if_neg hn] at hr
        by_cases hle : Y ≤ X
        · rw [if_pos hle] at hr
          injection hr with g1 g2
          subst g1 g2
          have hcd : decide (0 ≤ cmpN X Y) = true := by
            rcases Nat.lt_or_ge Y X with h | h
            · rw [cmpN_gt h]; rfl
            · rw [show X = Y by omega, cmpN_eq]; rfl
          go_upto_region 12 with
          (first
            | (go_at_call 48; (with_reducible refine (hC.out _ _ _ x1 y1).mono ?_); rintro e w2 ⟨rfl, hb2⟩; have B2 := B1.trans (hb2.mono B1.size); have x2 := x1.below hb2; have y2 := y1.below hb2; have P2 := P1.below hb2; have Q2 := Q1.below hb2; have R2 := R1.below hb2; clear x1 y1 P1 Q1 R1; obtain ⟨cP0_2, cP1_2, cP2_2, fP0_2, fP1_2, fP2_2, sP_2⟩ := P2.open3; obtain ⟨cQ0_2, cQ1_2, cQ2_2, fQ0_2, fQ1_2, fQ2_2, sQ_2⟩ := Q2.open3; obtain ⟨cR0_2, cR1_2, cR2_2, fR0_2, fR1_2, fR2_2, sR_2⟩ := R2.open3)
            | fail)
          have hAD : Below w2.heap.size w2 w2.drew := below_drewN (Below.refl _ _) 1
          have PD := P2.below hAD; have QD := Q2.below hAD; have RD := R2.below hAD; have xD := x2.below hAD; have yD := y2.below hAD
          have BD := B2.trans (hAD.mono B2.size)
          obtain ⟨cD0, cD1, cD2, fD0, fD1, fD2, sD⟩ := PD.open3
          obtain ⟨cE0, cE1, cE2, fE0, fE1, fE2, sE⟩ := QD.open3
          go_region_held3 (fun w' => (w'.cell? ⟨w.heap.size, 0, none⟩ = some (.bool neg) ∧ w'.cell? ⟨w.heap.size, 1, none⟩ = some (.slice au (digs DD M).length ku) ∧ w'.cell? ⟨w.heap.size, 2, none⟩ = some (.int .i64 E)) ∧ w'.cell? ⟨w.heap.size + 1, 0, none⟩ = some (.bool neg2) ∧ w'.cell? ⟨w.heap.size + 1, 1, none⟩ = some (.slice av (digs DD M2).length kv) ∧ w'.cell? ⟨w.heap.size + 1, 2, none⟩ = some (.int .i64 E2)) (first | with_reducible exact ⟨⟨cD0, cD1, cD2⟩, cE0, cE1, cE2⟩ | with_reducible exact ⟨⟨cF.1, cF.2.1, cF.2.2.1⟩, cH.1, cH.2.1, cH.2.2.1⟩ | with_reducible exact ⟨⟨(cG _ _ _).1, (cG _ _ _).2.1, (cG _ _ _).2.2.1⟩, (cI _ _ _).1, (cI _ _ _).2.1, (cI _ _ _).2.2.1⟩)
            (first
              | (go_at_call 49; (with_reducible refine (hM1.out hle _ _ _ xD yD).mono ?_); rintro e wf ⟨v3, rfl, z3, hb3⟩; have P3 := PD.below hb3; have Q3 := QD.below hb3; have R3 := RD.below hb3; have cF := P3.open3; have cH := Q3.open3; have cG := fun x y z => (P3.other3 n02 x y z).open3; have cI := fun x y z => (Q3.other3 n12 x y z).open3; obtain ⟨cR0, cR1, cR2, fR0, fR1, fR2, sR⟩ := R3.open3; obtain ⟨a3, k3, rfl, -⟩ := z3.view)
              | fail)
          all_goals
            go_wp2_with fail
            obtain ⟨q0, q1, q2, -⟩ := (R3.set3 (.bool neg) (.slice a3 (digs DD (X - Y)).length k3) (.int .i64 E2)).open3
            refine bodyPost_ret (v := .agg #[.bool neg, .slice a3 (digs DD (X - Y)).length k3, .int .i64 E2]) ?_ rfl ?_
            · simp [results, Tryd.results25, go_sem, q0, q1, q2]
            · exact ⟨_, rfl, z3.set3 R3 dcells32 _ _ _, below_set3b (BD.trans (hb3.mono BD.size)) (by omega) _ _ _⟩
        · rw [if_neg hle] at hr
          injection hr with g1 g2
          subst g1 g2
          have hcd : decide (0 ≤ cmpN X Y) = false := by rw [cmpN_lt (by omega)]; rfl
          go_upto_region 13 with
          (first
            | (go_at_call 48; (with_reducible refine (hC.out _ _ _ x1 y1).mono ?_); rintro e w2 ⟨rfl, hb2⟩; have B2 := B1.trans (hb2.mono B1.size); have x2 := x1.below hb2; have y2 := y1.below hb2; have P2 := P1.below hb2; have Q2 := Q1.below hb2; have R2 := R1.below hb2; clear x1 y1 P1 Q1 R1; obtain ⟨cP0_2, cP1_2, cP2_2, fP0_2, fP1_2, fP2_2, sP_2⟩ := P2.open3; obtain ⟨cQ0_2, cQ1_2, cQ2_2, fQ0_2, fQ1_2, fQ2_2, sQ_2⟩ := Q2.open3; obtain ⟨cR0_2, cR1_2, cR2_2, fR0_2, fR1_2, fR2_2, sR_2⟩ := R2.open3)
            | fail)
          have hAD : Below w2.heap.size w2 w2.drew := below_drewN (Below.refl _ _) 1
          have PD := P2.below hAD; have QD := Q2.below hAD; have RD := R2.below hAD; have xD := x2.below hAD; have yD := y2.below hAD
          have BD := B2.trans (hAD.mono B2.size)
          obtain ⟨cD0, cD1, cD2, fD0, fD1, fD2, sD⟩ := PD.open3
          obtain ⟨cE0, cE1, cE2, fE0, fE1, fE2, sE⟩ := QD.open3
          go_region_held3 (fun w' => (w'.cell? ⟨w.heap.size, 0, none⟩ = some (.bool neg) ∧ w'.cell? ⟨w.heap.size, 1, none⟩ = some (.slice au (digs DD M).length ku) ∧ w'.cell? ⟨w.heap.size, 2, none⟩ = some (.int .i64 E)) ∧ w'.cell? ⟨w.heap.size + 1, 0, none⟩ = some (.bool neg2) ∧ w'.cell? ⟨w.heap.size + 1, 1, none⟩ = some (.slice av (digs DD M2).length kv) ∧ w'.cell? ⟨w.heap.size + 1, 2, none⟩ = some (.int .i64 E2)) (first | with_reducible exact ⟨⟨cD0, cD1, cD2⟩, cE0, cE1, cE2⟩ | with_reducible exact ⟨⟨cF.1, cF.2.1, cF.2.2.1⟩, cH.1, cH.2.1, cH.2.2.1⟩ | with_reducible exact ⟨⟨(cG _ _ _).1, (cG _ _ _).2.1, (cG _ _ _).2.2.1⟩, (cI _ _ _).1, (cI _ _ _).2.1, (cI _ _ _).2.2.1⟩)
            (first
              | (go_at_call 49; (with_reducible refine (hM2.out (Nat.le_of_not_le hle) _ _ _ yD xD).mono ?_); rintro e wf ⟨v3, rfl, z3, hb3⟩; have P3 := PD.below hb3; have Q3 := QD.below hb3; have R3 := RD.below hb3; have cF := P3.open3; have cH := Q3.open3; have cG := fun x y z => (P3.other3 n02 x y z).open3; have cI := fun x y z => (Q3.other3 n12 x y z).open3; obtain ⟨cR0, cR1, cR2, fR0, fR1, fR2, sR⟩ := R3.open3; obtain ⟨a3, k3, rfl, -⟩ := z3.view)
              | fail)
          all_goals
            go_wp2_with fail
            obtain ⟨q0, q1, q2, -⟩ := (R3.set3 (.bool neg2) (.slice a3 (digs DD (Y - X)).length k3) (.int .i64 E2)).open3
            refine bodyPost_ret (v := .agg #[.bool neg2, .slice a3 (digs DD (Y - X)).length k3, .int .i64 E2]) ?_ rfl ?_
            · simp [results, Tryd.results25, go_sem, q0, q1, q2]
            · exact ⟨_, rfl, z3.set3 R3 dcells32 _ _ _, below_set3b (BD.trans (hb3.mono BD.size)) (by omega) _ _ _⟩
  · have es1 : s1 = 0 := by omega
    subst es1
    have hS1 : RowKit.Hid (∀ w v, RdD w v (digs DD M) → Calls Tryd.prog 46 #[v, .int .i64 0] w (OneD w (digs DD X))) := hS1
    go_enter Tryd.func25, Tryd.ntmps25
    go_upto_region 8 with fail
    have P0 : Blk (((w.alloc (.cells #[.bool neg, .slice au (digs DD M).length ku, .int .i64 E] 31)).alloc (.cells #[.bool neg2, .slice av (digs DD M2).length kv, .int .i64 E2] 31)).alloc (.cells #[.bool false, .slice none 0 0, .int .i64 0] 31)) w.heap.size #[.bool neg, .slice au (digs DD M).length ku, .int .i64 E] := blk3a
    have Q0 : Blk (((w.alloc (.cells #[.bool neg, .slice au (digs DD M).length ku, .int .i64 E] 31)).alloc (.cells #[.bool neg2, .slice av (digs DD M2).length kv, .int .i64 E2] 31)).alloc (.cells #[.bool false, .slice none 0 0, .int .i64 0] 31)) (w.heap.size + 1) #[.bool neg2, .slice av (digs DD M2).length kv, .int .i64 E2] := blk3b
    have R0 : Blk (((w.alloc (.cells #[.bool neg, .slice au (digs DD M).length ku, .int .i64 E] 31)).alloc (.cells #[.bool neg2, .slice av (digs DD M2).length kv, .int .i64 E2] 31)).alloc (.cells #[.bool false, .slice none 0 0, .int .i64 0] 31)) (w.heap.size + 1 + 1) #[.bool false, .slice none 0 0, .int .i64 0] := blk3c
    have B0 : Below w.heap.size w (((w.alloc (.cells #[.bool neg, .slice au (digs DD M).length ku, .int .i64 E] 31)).alloc (.cells #[.bool neg2, .slice av (digs DD M2).length kv, .int .i64 E2] 31)).alloc (.cells #[.bool false, .slice none 0 0, .int .i64 0] 31)) := below3
    have x0 := h.below B0; have y0 := k.below B0
    generalize (((w.alloc (.cells #[.bool neg, .slice au (digs DD M).length ku, .int .i64 E] 31)).alloc (.cells #[.bool neg2, .slice av (digs DD M2).length kv, .int .i64 E2] 31)).alloc (.cells #[.bool false, .slice none 0 0, .int .i64 0] 31)) = w0 at *
    have n02 : w.heap.size ≠ w.heap.size + 1 + 1 := by omega
    have n12 : w.heap.size + 1 ≠ w.heap.size + 1 + 1 := by omega
    go_cut [6, 7] (fun v6 v7 w' => ∃ a6 k6 a7 k7, v6 = .slice a6 (digs DD X).length k6 ∧ v7 = .slice a7 (digs DD Y).length k7 ∧ RdD w' (.slice a6 (digs DD X).length k6) (digs DD X) ∧ RdD w' (.slice a7 (digs DD Y).length k7) (digs DD Y) ∧ Blk w' w.heap.size #[.bool neg, .slice au (digs DD M).length ku, .int .i64 E] ∧ Blk w' (w.heap.size + 1) #[.bool neg2, .slice av (digs DD M2).length kv, .int .i64 E2] ∧ Blk w' (w.heap.size + 1 + 1) #[.bool false, .slice none 0 0, .int .i64 0] ∧ Below w.heap.size w w')
    case first =>
      have hAD : Below w0.heap.size w0 w0.drew := below_drewN (Below.refl _ _) 1
      have x9 := x0.below hAD; have y9 := y0.below hAD; have P9 := P0.below hAD; have Q9 := Q0.below hAD; have R9 := R0.below hAD
      have B9 := B0.trans (hAD.mono B0.size)
      obtain ⟨cP0, cP1, cP2, fP0, fP1, fP2, sP⟩ := P9.open3
      obtain ⟨cQ0, cQ1, cQ2, fQ0, fQ1, fQ2, sQ⟩ := Q9.open3
      go_region_held3 (fun w' => (w'.cell? ⟨w.heap.size, 0, none⟩ = some (.bool neg) ∧ w'.cell? ⟨w.heap.size, 1, none⟩ = some (.slice au (digs DD M).length ku) ∧ w'.cell? ⟨w.heap.size, 2, none⟩ = some (.int .i64 E)) ∧ w'.cell? ⟨w.heap.size + 1, 0, none⟩ = some (.bool neg2) ∧ w'.cell? ⟨w.heap.size + 1, 1, none⟩ = some (.slice av (digs DD M2).length kv) ∧ w'.cell? ⟨w.heap.size + 1, 2, none⟩ = some (.int .i64 E2)) (first | with_reducible exact ⟨⟨cP0, cP1, cP2⟩, cQ0, cQ1, cQ2⟩ | with_reducible exact ⟨⟨cP0_10, cP1_10, cP2_10⟩, cQ0_10, cQ1_10, cQ2_10⟩ | with_reducible exact ⟨⟨cP0_11, cP1_11, cP2_11⟩, cQ0_11, cQ1_11, cQ2_11⟩)
      (first
        | (go_at_call 46; (with_reducible refine (hS1.out _ _ x9).mono ?_); rintro e w10 ⟨vp10, rfl, p10, hb10⟩; have B10 := B9.trans (hb10.mono B9.size); have x10 := x9.below hb10; have y10 := y9.below hb10; have P10 := P9.below hb10; have Q10 := Q9.below hb10; have R10 := R9.below hb10; clear x9 y9 P9 Q9 R9; obtain ⟨cP0_10, cP1_10, cP2_10, fP0_10, fP1_10, fP2_10, sP_10⟩ := P10.open3; obtain ⟨cQ0_10, cQ1_10, cQ2_10, fQ0_10, fQ1_10, fQ2_10, sQ_10⟩ := Q10.open3; obtain ⟨cR0_10, cR1_10, cR2_10, fR0_10, fR1_10, fR2_10, sR_10⟩ := R10.open3; obtain ⟨ap10, kp10, rfl, -⟩ := p10.view; try simp only [List.length_nil] at p10)
        | (go_at_call 46; (with_reducible refine (hS2.out _ _ y10).mono ?_); rintro e w11 ⟨vq11, rfl, q11, hb11⟩; have B11 := B10.trans (hb11.mono B10.size); have x11 := x10.below hb11; have y11 := y10.below hb11; have P11 := P10.below hb11; have Q11 := Q10.below hb11; have R11 := R10.below hb11; have p11 := p10.below hb11; clear x10 y10 P10 Q10 R10 p10; clear cP0_10 cP1_10 cP2_10 fP0_10 fP1_10 fP2_10 sP_10; obtain ⟨cP0_11, cP1_11, cP2_11, fP0_11, fP1_11, fP2_11, sP_11⟩ := P11.open3; clear cQ0_10 cQ1_10 cQ2_10 fQ0_10 fQ1_10 fQ2_10 sQ_10; obtain ⟨cQ0_11, cQ1_11, cQ2_11, fQ0_11, fQ1_11, fQ2_11, sQ_11⟩ := Q11.open3; clear cR0_10 cR1_10 cR2_10 fR0_10 fR1_10 fR2_10 sR_10; obtain ⟨cR0_11, cR1_11, cR2_11, fR0_11, fR1_11, fR2_11, sR_11⟩ := R11.open3; obtain ⟨aq11, kq11, rfl, -⟩ := q11.view; try simp only [List.length_nil] at q11)
        | fail)
      all_goals
        go_wp2_with fail
        go_meet
        exact ⟨_, _, _, _, rfl, rfl, p11, q11, P11, Q11, R11, B11⟩
    case rest =>
      obtain ⟨ax, kx, ay, ky, rfl, rfl, x1, y1, P1, Q1, R1, B1⟩ := hcut
      clear P0 Q0 R0 B0 x0 y0 hlt
      generalize hw1x : wc = w1 at *
      clear hw1x
      obtain ⟨cP0_1, cP1_1, cP2_1, fP0_1, fP1_1, fP2_1, sP_1⟩ := P1.open3
      obtain ⟨cQ0_1, cQ1_1, cQ2_1, fQ0_1, fQ1_1, fQ2_1, sQ_1⟩ := Q1.open3
      by_cases hn : neg = neg2
      · subst hn
        rw [if_pos rfl] at hr
        injection hr with g1 g2
        subst g1 g2
        go_upto_region 10 with fail
        have hAD : Below w1.heap.size w1 w1.drew := below_drewN (Below.refl _ _) 1
        have PD := P1.below hAD; have QD := Q1.below hAD; have RD := R1.below hAD; have xD := x1.below hAD; have yD := y1.below hAD
        have BD := B1.trans (hAD.mono B1.size)
        obtain ⟨cD0, cD1, cD2, fD0, fD1, fD2, sD⟩ := PD.open3
        obtain ⟨cE0, cE1, cE2, fE0, fE1, fE2, sE⟩ := QD.open3
        go_region_held3 (fun w' => (w'.cell? ⟨w.heap.size, 0, none⟩ = some (.bool neg) ∧ w'.cell? ⟨w.heap.size, 1, none⟩ = some (.slice au (digs DD M).length ku) ∧ w'.cell? ⟨w.heap.size, 2, none⟩ = some (.int .i64 E)) ∧ w'.cell? ⟨w.heap.size + 1, 0, none⟩ = some (.bool neg) ∧ w'.cell? ⟨w.heap.size + 1, 1, none⟩ = some (.slice av (digs DD M2).length kv) ∧ w'.cell? ⟨w.heap.size + 1, 2, none⟩ = some (.int .i64 E2)) (first | with_reducible exact ⟨⟨cD0, cD1, cD2⟩, cE0, cE1, cE2⟩ | with_reducible exact ⟨⟨cF.1, cF.2.1, cF.2.2.1⟩, cH.1, cH.2.1, cH.2.2.1⟩ | with_reducible exact ⟨⟨(cG _ _ _).1, (cG _ _ _).2.1, (cG _ _ _).2.2.1⟩, (cI _ _ _).1, (cI _ _ _).2.1, (cI _ _ _).2.2.1⟩)
          (first
            | (go_at_call 47; (with_reducible refine (hA.out _ _ _ xD yD).mono ?_); rintro e wf ⟨v3, rfl, z3, hb3⟩; have P3 := PD.below hb3; have Q3 := QD.below hb3; have R3 := RD.below hb3; have cF := P3.open3; have cH := Q3.open3; have cG := fun x y z => (P3.other3 n02 x y z).open3; have cI := fun x y z => (Q3.other3 n12 x y z).open3; obtain ⟨cR0, cR1, cR2, fR0, fR1, fR2, sR⟩ := R3.open3; obtain ⟨a3, k3, rfl, -⟩ := z3.view)
            | fail)
        all_goals
          go_wp2_with fail
          obtain ⟨q0, q1, q2, -⟩ := (R3.set3 (.bool neg) (.slice a3 (digs DD (X + Y)).length k3) (.int .i64 E)).open3
          refine bodyPost_ret (v := .agg #[.bool neg, .slice a3 (digs DD (X + Y)).length k3, .int .i64 E]) ?_ rfl ?_
          · simp [results, Tryd.results25, go_sem, q0, q1, q2]
          · exact ⟨_, rfl, z3.set3 R3 dcells32 _ _ _, below_set3b (BD.trans (hb3.mono BD.size)) (by omega) _ _ _⟩
      · have hbb : (neg == neg2) = false := beq_false_of_ne hn
        rw [if_neg hn] at hr
        by_cases hle : Y ≤ X
        · rw [if_pos hle] at hr
          injection hr with g1 g2
          subst g1 g2
          have hcd : decide (0 ≤ cmpN X Y) = true := by
            rcases Nat.lt_or_ge Y X with h | h
            · rw [cmpN_gt h]; rfl
            · rw [show X = Y by omega, cmpN_eq]; rfl
          go_upto_region 12 with
          (first
            | (go_at_call 48; (with_reducible refine (hC.out _ _ _ x1 y1).mono ?_); rintro e w2 ⟨rfl, hb2⟩; have B2 := B1.trans (hb2.mono B1.size); have x2 := x1.below hb2; have y2 := y1.below hb2; have P2 := P1.below hb2; have Q2 := Q1.below hb2; have R2 := R1.below hb2; clear x1 y1 P1 Q1 R1; obtain ⟨cP0_2, cP1_2, cP2_2, fP0_2, fP1_2, fP2_2, sP_2⟩ := P2.open3; obtain ⟨cQ0_2, cQ1_2, cQ2_2, fQ0_2, fQ1_2, fQ2_2, sQ_2⟩ := Q2.open3; obtain ⟨cR0_2, cR1_2, cR2_2, fR0_2, fR1_2, fR2_2, sR_2⟩ := R2.open3)
            | fail)
          have hAD : Below w2.heap.size w2 w2.drew := below_drewN (Below.refl _ _) 1
          have PD := P2.below hAD; have QD := Q2.below hAD; have RD := R2.below hAD; have xD := x2.below hAD; have yD := y2.below hAD
          have BD := B2.trans (hAD.mono B2.size)
          obtain ⟨cD0, cD1, cD2, fD0, fD1, fD2, sD⟩ := PD.open3
          obtain ⟨cE0, cE1, cE2, fE0, fE1, fE2, sE⟩ := QD.open3
          go_region_held3 (fun w' => (w'.cell? ⟨w.heap.size, 0, none⟩ = some (.bool neg) ∧ w'.cell? ⟨w.heap.size, 1, none⟩ = some (.slice au (digs DD M).length ku) ∧ w'.cell? ⟨w.heap.size, 2, none⟩ = some (.int .i64 E)) ∧ w'.cell? ⟨w.heap.size + 1, 0, none⟩ = some (.bool neg2) ∧ w'.cell? ⟨w.heap.size + 1, 1, none⟩ = some (.slice av (digs DD M2).length kv) ∧ w'.cell? ⟨w.heap.size + 1, 2, none⟩ = some (.int .i64 E2)) (first | with_reducible exact ⟨⟨cD0, cD1, cD2⟩, cE0, cE1, cE2⟩ | with_reducible exact ⟨⟨cF.1, cF.2.1, cF.2.2.1⟩, cH.1, cH.2.1, cH.2.2.1⟩ | with_reducible exact ⟨⟨(cG _ _ _).1, (cG _ _ _).2.1, (cG _ _ _).2.2.1⟩, (cI _ _ _).1, (cI _ _ _).2.1, (cI _ _ _).2.2.1⟩)
            (first
              | (go_at_call 49; (with_reducible refine (hM1.out hle _ _ _ xD yD).mono ?_); rintro e wf ⟨v3, rfl, z3, hb3⟩; have P3 := PD.below hb3; have Q3 := QD.below hb3; have R3 := RD.below hb3; have cF := P3.open3; have cH := Q3.open3; have cG := fun x y z => (P3.other3 n02 x y z).open3; have cI := fun x y z => (Q3.other3 n12 x y z).open3; obtain ⟨cR0, cR1, cR2, fR0, fR1, fR2, sR⟩ := R3.open3; obtain ⟨a3, k3, rfl, -⟩ := z3.view)
              | fail)
          all_goals
            go_wp2_with fail
            obtain ⟨q0, q1, q2, -⟩ := (R3.set3 (.bool neg) (.slice a3 (digs DD (X - Y)).length k3) (.int .i64 E)).open3
            refine bodyPost_ret (v := .agg #[.bool neg, .slice a3 (digs DD (X - Y)).length k3, .int .i64 E]) ?_ rfl ?_
            · simp [results, Tryd.results25, go_sem, q0, q1, q2]
            · exact ⟨_, rfl, z3.set3 R3 dcells32 _ _ _, below_set3b (BD.trans (hb3.mono BD.size)) (by omega) _ _ _⟩
        · rw [if_neg hle] at hr
          injection hr with g1 g2
          subst g1 g2
          have hcd : decide (0 ≤ cmpN X Y) = false := by rw [cmpN_lt (by omega)]; rfl
          go_upto_region 13 with
          (first
            | (go_at_call 48; (with_reducible refine (hC.out _ _ _ x1 y1).mono ?_); rintro e w2 ⟨rfl, hb2⟩; have B2 := B1.trans (hb2.mono B1.size); have x2 := x1.below hb2; have y2 := y1.below hb2; have P2 := P1.below hb2; have Q2 := Q1.below hb2; have R2 := R1.below hb2; clear x1 y1 P1 Q1 R1; obtain ⟨cP0_2, cP1_2, cP2_2, fP0_2, fP1_2, fP2_2, sP_2⟩ := P2.open3; obtain ⟨cQ0_2, cQ1_2, cQ2_2, fQ0_2, fQ1_2, fQ2_2, sQ_2⟩ := Q2.open3; obtain ⟨cR0_2, cR1_2, cR2_2, fR0_2, fR1_2, fR2_2, sR_2⟩ := R2.open3)
            | fail)
          have hAD : Below w2.heap.size w2 w2.drew := below_drewN (Below.refl _ _) 1
          have PD := P2.below hAD; have QD := Q2.below hAD; have RD := R2.below hAD; have xD := x2.below hAD; have yD := y2.below hAD
          have BD := B2.trans (hAD.mono B2.size)
          obtain ⟨cD0, cD1, cD2, fD0, fD1, fD2, sD⟩ := PD.open3
          obtain ⟨cE0, cE1, cE2, fE0, fE1, fE2, sE⟩ := QD.open3
          go_region_held3 (fun w' => (w'.cell? ⟨w.heap.size, 0, none⟩ = some (.bool neg) ∧ w'.cell? ⟨w.heap.size, 1, none⟩ = some (.slice au (digs DD M).length ku) ∧ w'.cell? ⟨w.heap.size, 2, none⟩ = some (.int .i64 E)) ∧ w'.cell? ⟨w.heap.size + 1, 0, none⟩ = some (.bool neg2) ∧ w'.cell? ⟨w.heap.size + 1, 1, none⟩ = some (.slice av (digs DD M2).length kv) ∧ w'.cell? ⟨w.heap.size + 1, 2, none⟩ = some (.int .i64 E2)) (first | with_reducible exact ⟨⟨cD0, cD1, cD2⟩, cE0, cE1, cE2⟩ | with_reducible exact ⟨⟨cF.1, cF.2.1, cF.2.2.1⟩, cH.1, cH.2.1, cH.2.2.1⟩ | with_reducible exact ⟨⟨(cG _ _ _).1, (cG _ _ _).2.1, (cG _ _ _).2.2.1⟩, (cI _ _ _).1, (cI _ _ _).2.1, (cI _ _ _).2.2.1⟩)
            (first
              | (go_at_call 49; (with_reducible refine (hM2.out (Nat.le_of_not_le hle) _ _ _ yD xD).mono ?_); rintro e wf ⟨v3, rfl, z3, hb3⟩; have P3 := PD.below hb3; have Q3 := QD.below hb3; have R3 := RD.below hb3; have cF := P3.open3; have cH := Q3.open3; have cG := fun x y z => (P3.other3 n02 x y z).open3; have cI := fun x y z => (Q3.other3 n12 x y z).open3; obtain ⟨cR0, cR1, cR2, fR0, fR1, fR2, sR⟩ := R3.open3; obtain ⟨a3, k3, rfl, -⟩ := z3.view)
              | fail)
          all_goals
            go_wp2_with fail
            obtain ⟨q0, q1, q2, -⟩ := (R3.set3 (.bool neg2) (.slice a3 (digs DD (Y - X)).length k3) (.int .i64 E)).open3
            refine bodyPost_ret (v := .agg #[.bool neg2, .slice a3 (digs DD (Y - X)).length k3, .int .i64 E]) ?_ rfl ?_
            · simp [results, Tryd.results25, go_sem, q0, q1, q2]
            · exact ⟨_, rfl, z3.set3 R3 dcells32 _ _ _, below_set3b (BD.trans (hb3.mono BD.size)) (by omega) _ _ _⟩
end Go.Proofs.YtflkemcoomgoiaaDoor

/- planimeterref05.Cmp by its contract. Conditions: the numbers are short. -/
namespace Go.Proofs.YtflkemcoomgoiaaDoor
set_option maxRecDepth 100000
open Go.RowKit Go.ChangeShapes Go.WideShapes

theorem RdD.set1 {w : World} {v : Value} {l : List Nat} {b : Nat} {c : Array Value} (h : RdD w v l) (hB : Blk w b c) (hc : ∀ x ∈ c.toList, ∀ n : Nat, x ≠ D32 n) (x : Value) : RdD (w.setCell ⟨b, 0, none⟩ x) v l := by
  have ha : Rd (fun g => g ≠ b) w v (l.map D32) := by
    obtain ⟨a, k, h1, h2, h3, h4, h5⟩ := h
    obtain ⟨hb, T, hh⟩ := hB
    refine ⟨a, k, h1, h2, h3, h4, fun j u hj => ?_⟩
    obtain ⟨g, off, e1, _, e3⟩ := h5 j u hj
    refine ⟨g, off, e1, fun e => ?_, e3⟩
    subst e
    rw [World.cell?, hh] at e3
    obtain ⟨n, -, rfl⟩ := List.mem_map.1 (List.mem_of_getElem? hj)
    have e4 : c[off + j]? = some (D32 n) := by simpa using e3
    exact hc _ (by rw [← Array.getElem?_toList] at e4; exact List.mem_of_getElem? e4) n rfl
  have h2 := ha.keep (S := fun g => g = b) ((Fr.refl (fun g => g = b) w).setCell (p := ⟨b, 0, none⟩) rfl x) (fun _ h => h)
  exact h2.mono (fun _ _ _ => trivial)

/-- The sign of the difference is the order. -/
theorem sign_diff {neg n3 : Bool} {X Y M3 : Nat} {low : Int} (h : addR neg (!neg) X Y = (n3, M3)) : signD ⟨n3, M3, low⟩ = (if neg then -1 else 1) * cmpN X Y := by
  unfold addR at h
  rw [if_neg (by cases neg <;> simp)] at h
  rcases Nat.lt_trichotomy X Y with h1 | h1 | h1
  · rw [if_neg (by omega)] at h
    injection h with e1 e2
    subst e1 e2
    unfold signD
    rw [cmpN_lt h1, if_neg (show Y - X ≠ 0 by omega)]
    cases neg <;> rfl
  · subst h1
    rw [if_pos (Nat.le_refl _)] at h
    injection h with e1 e2
    subst e1 e2
    unfold signD
    rw [cmpN_eq, if_pos (show X - X = 0 by omega), Int.mul_zero]
  · rw [if_pos (by omega)] at h
    injection h with e1 e2
    subst e1 e2
    unfold signD
    rw [cmpN_gt h1, if_neg (show X - Y ≠ 0 by omega), Int.mul_one]

set_option maxHeartbeats 2000000 in
theorem RCmp_n {w : World} {u u2 : Value} {neg neg2 : Bool} {M M2 : Nat} {E E2 c : Int} (h : RdD w u (digs DD M)) (k : RdD w u2 (digs DD M2)) (sM : bitN M ≤ 200000) (sM2 : bitN M2 ≤ 200000) (h1 : -4294967296 ≤ E) (h2 : E ≤ 4294967296) (h3 : -4294967296 ≤ E2) (h4 : E2 ≤ 4294967296)
    (hc : cmpD ⟨neg, M, E⟩ ⟨neg2, M2, E2⟩ = c) :
    Calls Tryd.prog 9 #[.agg #[.bool neg, u, .int .i64 E], .agg #[.bool neg2, u2, .int .i64 E2]] w (fun e w' => e = .returned (.int .i64 c) ∧ Below w.heap.size w w') := by
  obtain ⟨s, hs⟩ : ∃ s, signD ⟨neg, M, E⟩ = s := ⟨_, rfl⟩
  obtain ⟨s2, hs2⟩ : ∃ s, signD ⟨neg2, M2, E2⟩ = s := ⟨_, rfl⟩
  obtain ⟨t1, ht1⟩ : ∃ t, topD ⟨neg, M, E⟩ = t := ⟨_, rfl⟩
  obtain ⟨t2, ht2⟩ : ∃ t, topD ⟨neg2, M2, E2⟩ = t := ⟨_, rfl⟩
  unfold cmpD at hc
  rw [hs, hs2] at hc
  have HS1 := Lib.hid (fun w v (h : RdD w v (digs DD M)) => RSign_n h hs)
  have HS2 := Lib.hid (fun w v (h : RdD w v (digs DD M2)) => RSign_n h hs2)
  have HT1 := Lib.hid (fun w v (h : RdD w v (digs DD M)) => by
    have := RTop_n (neg := neg) (E := E) h sM h1 h2
    rw [ht1] at this; exact this)
  have HT2 := Lib.hid (fun w v (h : RdD w v (digs DD M2)) => by
    have := RTop_n (neg := neg2) (E := E2) h sM2 h3 h4
    rw [ht2] at this; exact this)
  have eS := Lib.hid hs; have eS2 := Lib.hid hs2
  have et1 := Lib.hid ht1; have et2 := Lib.hid ht2
  obtain ⟨au, nu, ku, rfl⟩ := h.slice
  obtain ⟨av, nv, kv, rfl⟩ := k.slice
  clear hs hs2 ht1 ht2
  go_enter Tryd.func9, Tryd.ntmps9
  go_upto_region 1 with fail
  have P0 : Blk ((w.alloc (.cells #[.bool neg, .slice au nu ku, .int .i64 E] 31)).alloc (.cells #[.bool neg2, .slice av nv kv, .int .i64 E2] 31)) w.heap.size #[.bool neg, .slice au nu ku, .int .i64 E] := blk_a1
  have Q0 : Blk ((w.alloc (.cells #[.bool neg, .slice au nu ku, .int .i64 E] 31)).alloc (.cells #[.bool neg2, .slice av nv kv, .int .i64 E2] 31)) (w.heap.size + 1) #[.bool neg2, .slice av nv kv, .int .i64 E2] := blk_a2
  have B0 : Below w.heap.size w ((w.alloc (.cells #[.bool neg, .slice au nu ku, .int .i64 E] 31)).alloc (.cells #[.bool neg2, .slice av nv kv, .int .i64 E2] 31)) := below_2
  have x0 := h.below B0; have y0 := k.below B0
  generalize ((w.alloc (.cells #[.bool neg, .slice au nu ku, .int .i64 E] 31)).alloc (.cells #[.bool neg2, .slice av nv kv, .int .i64 E2] 31)) = w0 at *
  go_cut [5, 6] (fun v5 v6 w' => v5 = .int .i64 s ∧ v6 = .int .i64 s2 ∧ RdD w' (.slice au nu ku) (digs DD M) ∧ RdD w' (.slice av nv kv) (digs DD M2) ∧ Blk w' w.heap.size #[.bool neg, .slice au nu ku, .int .i64 E] ∧ Blk w' (w.heap.size + 1) #[.bool neg2, .slice av nv kv, .int .i64 E2] ∧ Below w.heap.size w w')
  case first =>
    have hAD1 : Below w0.heap.size w0 w0.drew := below_drewN (Below.refl _ _) 1
    have x1 := x0.below hAD1; have y1 := y0.below hAD1; have P1 := P0.below hAD1; have Q1 := Q0.below hAD1
    have B1 := B0.trans (hAD1.mono B0.size)
    obtain ⟨cP0_1, cP1_1, cP2_1, fP0_1, fP1_1, fP2_1, sP_1⟩ := P1.open3
    obtain ⟨cQ0_1, cQ1_1, cQ2_1, fQ0_1, fQ1_1, fQ2_1, sQ_1⟩ := Q1.open3
    go_region_held3 (fun w' => (w'.cell? ⟨w.heap.size, 0, none⟩ = some (.bool neg) ∧ w'.cell? ⟨w.heap.size, 1, none⟩ = some (.slice au nu ku) ∧ w'.cell? ⟨w.heap.size, 2, none⟩ = some (.int .i64 E)) ∧ w'.cell? ⟨w.heap.size + 1, 0, none⟩ = some (.bool neg2) ∧ w'.cell? ⟨w.heap.size + 1, 1, none⟩ = some (.slice av nv kv) ∧ w'.cell? ⟨w.heap.size + 1, 2, none⟩ = some (.int .i64 E2)) (first | with_reducible exact ⟨⟨cP0_1, cP1_1, cP2_1⟩, cQ0_1, cQ1_1, cQ2_1⟩ | with_reducible exact ⟨⟨cP0_2, cP1_2, cP2_2⟩, cQ0_2, cQ1_2, cQ2_2⟩ | with_reducible exact ⟨⟨cP0_3, cP1_3, cP2_3⟩, cQ0_3, cQ1_3, cQ2_3⟩)
    (first
      | (go_at_call 23; (with_reducible refine (HS1.out _ _ x1).mono ?_); rintro e w2 ⟨rfl, hb2⟩; have B2 := B1.trans (hb2.mono B1.size); have x2 := x1.below hb2; have y2 := y1.below hb2; have P2 := P1.below hb2; have Q2 := Q1.below hb2; clear x1 y1 P1 Q1; obtain ⟨cP0_2, cP1_2, cP2_2, fP0_2, fP1_2, fP2_2, sP_2⟩ := P2.open3; obtain ⟨cQ0_2, cQ1_2, cQ2_2, fQ0_2, fQ1_2, fQ2_2, sQ_2⟩ := Q2.open3)
      | (go_at_call 23; (with_reducible refine (HS2.out _ _ y2).mono ?_); rintro e w3 ⟨rfl, hb3⟩; have B3 := B2.trans (hb3.mono B2.size); have x3 := x2.below hb3; have y3 := y2.below hb3; have P3 := P2.below hb3; have Q3 := Q2.below hb3; clear x2 y2 P2 Q2; clear cP0_2 cP1_2 cP2_2 fP0_2 fP1_2 fP2_2 sP_2; obtain ⟨cP0_3, cP1_3, cP2_3, fP0_3, fP1_3, fP2_3, sP_3⟩ := P3.open3; clear cQ0_2 cQ1_2 cQ2_2 fQ0_2 fQ1_2 fQ2_2 sQ_2; obtain ⟨cQ0_3, cQ1_3, cQ2_3, fQ0_3, fQ1_3, fQ2_3, sQ_3⟩ := Q3.open3)
      | fail)
    all_goals
      go_wp2_with fail
      go_meet
      exact ⟨rfl, rfl, x3, y3, P3, Q3, B3⟩
  case rest =>
    obtain ⟨rfl, rfl, x1, y1, P1, Q1, B1⟩ := hcut
    clear P0 Q0 B0 x0 y0 h k
    generalize hwx : wc = w1 at *
    clear hwx
    by_cases hx : s ≠ s2 ∨ s = 0
    · rw [if_pos hx] at hc
      unfold cmpI at hc
      clear P1 Q1 x1 y1
      rcases Int.lt_trichotomy s s2 with hl | hl | hl
      · rw [if_pos hl] at hc
        subst hc
        have d1 : decide (s < s2) = true := decide_eq_true hl
        have d2 : (s == s2) = false := beq_false_of_ne (by omega)
        clear hx
        go_wp2_with fail
        all_goals
          go_ret
          exact ⟨rfl, B1⟩
      · subst hl
        obtain rfl : s = 0 := by rcases hx with h | h; · exact absurd rfl h
                                 · exact h
        rw [if_neg (by omega), if_neg (by omega)] at hc
        subst hc
        clear hx
        go_wp2_with fail
        all_goals
          go_ret
          exact ⟨rfl, B1⟩
      · rw [if_neg (by omega), if_pos hl] at hc
        subst hc
        have d1 : decide (s < s2) = false := decide_eq_false (by omega)
        have d3 : decide (s2 < s) = true := decide_eq_true hl
        have d2 : (s == s2) = false := beq_false_of_ne (by omega)
        clear hx
        go_wp2_with fail
        all_goals
          go_ret
          exact ⟨rfl, B1⟩
    · rw [if_neg hx] at hc
      have hss : s2 = s := by
        rcases Int.lt_trichotomy s s2 with h | h | h
        · exact absurd (.inl (by omega)) hx
        · exact h.symm
        · exact absurd (.inl (by omega)) hx
      have hs0 : s ≠ 0 := fun h => hx (.inr h)
      have n1 : M ≠ 0 := fun h => hs0 (by rw [← eS.out]; unfold signD; rw [if_pos h])
      have n2 : M2 ≠ 0 := fun h => hs0 (by rw [← hss, ← eS2.out]; unfold signD; rw [if_pos h])
      have hsn : (if neg then (-1 : Int) else 1) = s := by rw [← eS.out]; unfold signD; rw [if_neg n1]
      have hnn : neg2 = neg := by
        have h5 : (if neg2 then (-1 : Int) else 1) = s := by rw [← hss, ← eS2.out]; unfold signD; rw [if_neg n2]
        rw [← hsn] at h5
        cases neg <;> cases neg2 <;> first | rfl | exact absurd h5 (by decide)
      have hsb : (s == 0) = false := beq_false_of_ne hs0
      have hso : s ≠ 0 := hs0
      subst hss hnn
      clear hx
      go_upto_region 8 with fail
      have hAD2 : Below w1.heap.size w1 w1.drew := below_drewN (Below.refl _ _) 1
      have x2 := x1.below hAD2; have y2 := y1.below hAD2; have P2 := P1.below hAD2; have Q2 := Q1.below hAD2
      have B2 := B1.trans (hAD2.mono B1.size)
      obtain ⟨cP0_2, cP1_2, cP2_2, fP0_2, fP1_2, fP2_2, sP_2⟩ := P2.open3
      obtain ⟨cQ0_2, cQ1_2, cQ2_2, fQ0_2, fQ1_2, fQ2_2, sQ_2⟩ := Q2.open3
      by_cases htt : t1 = t2
      · subst htt
        obtain ⟨n3, M3, hr⟩ : ∃ a b, addR neg2 (!neg2) (M * 2 ^ (E - min E E2).toNat) (M2 * 2 ^ (E2 - min E E2).toNat) = (a, b) := ⟨_, _, rfl⟩
        have hsd : signD ⟨n3, M3, min E E2⟩ = c := by
          rw [sign_diff hr, hsn, ← hc]; rfl
        have q1 := et1.out; have q2 := et2.out
        unfold topD at q1 q2
        simp only at q1 q2
        have u1 : E - min E E2 = ((E - min E E2).toNat : Nat) := (Int.toNat_of_nonneg (by omega)).symm
        have u2 : E2 - min E E2 = ((E2 - min E E2).toNat : Nat) := (Int.toNat_of_nonneg (by omega)).symm
        have AD := Lib.hid (fun w v u (h : RdD w v (digs DD M)) (k : RdD w u (digs DD M2)) => RAdd_n (neg := neg2) (neg2 := !neg2) h k n1 n2 rfl u1 u2 rfl rfl (by omega) (by omega) hr)
        have SG := Lib.hid (fun w v (h : RdD w v (digs DD M3)) => RSign_n h hsd)
        obtain ⟨lw, hlw⟩ : ∃ l, min E E2 = l := ⟨_, rfl⟩
        rw [hlw] at AD SG
        clear q1 q2 u1 u2 hsd hr hc hsn hlw
        go_region_held3 (fun w' => (w'.cell? ⟨w.heap.size, 0, none⟩ = some (.bool neg2) ∧ w'.cell? ⟨w.heap.size, 1, none⟩ = some (.slice au nu ku) ∧ w'.cell? ⟨w.heap.size, 2, none⟩ = some (.int .i64 E)) ∧ w'.cell? ⟨w.heap.size + 1, 0, none⟩ = some (.bool neg2) ∧ w'.cell? ⟨w.heap.size + 1, 1, none⟩ = some (.slice av nv kv) ∧ w'.cell? ⟨w.heap.size + 1, 2, none⟩ = some (.int .i64 E2)) (first | with_reducible exact ⟨⟨cP0_2, cP1_2, cP2_2⟩, cQ0_2, cQ1_2, cQ2_2⟩ | with_reducible exact ⟨⟨cP0_3, cP1_3, cP2_3⟩, cQ0_3, cQ1_3, cQ2_3⟩ | with_reducible exact ⟨⟨cP0_4, cP1_4, cP2_4⟩, cQ0_4, cQ1_4, cQ2_4⟩)
        (first
          | (go_at_call 24; (with_reducible refine (HT1.out _ _ x2).mono ?_); rintro e w3 ⟨rfl, hb3⟩; have B3 := B2.trans (hb3.mono B2.size); have x3 := x2.below hb3; have y3 := y2.below hb3; have P3 := P2.below hb3; have Q3 := Q2.below hb3; clear x2 y2 P2 Q2; obtain ⟨cP0_3, cP1_3, cP2_3, fP0_3, fP1_3, fP2_3, sP_3⟩ := P3.open3; obtain ⟨cQ0_3, cQ1_3, cQ2_3, fQ0_3, fQ1_3, fQ2_3, sQ_3⟩ := Q3.open3)
          | (go_at_call 24; (with_reducible refine (HT2.out _ _ y3).mono ?_); rintro e w4 ⟨rfl, hb4⟩; have B4 := B3.trans (hb4.mono B3.size); have x4 := x3.below hb4; have y4 := y3.below hb4; have P4 := P3.below hb4; have Q4 := Q3.below hb4; clear x3 y3 P3 Q3; clear cP0_3 cP1_3 cP2_3 fP0_3 fP1_3 fP2_3 sP_3; obtain ⟨cP0_4, cP1_4, cP2_4, fP0_4, fP1_4, fP2_4, sP_4⟩ := P4.open3; clear cQ0_3 cQ1_3 cQ2_3 fQ0_3 fQ1_3 fQ2_3 sQ_3; obtain ⟨cQ0_4, cQ1_4, cQ2_4, fQ0_4, fQ1_4, fQ2_4, sQ_4⟩ := Q4.open3)
          | fail)
        all_goals
          go_upto_region 13 with fail
          have P5 := P4.other1 (b' := w.heap.size + 1) (j := 0) (by omega) (.bool !neg2)
          have Q5 := Q4.set1 (.bool !neg2)
          have x5 := x4.set1 Q4 dcells32 (.bool !neg2)
          have y5 := y4.set1 Q4 dcells32 (.bool !neg2)
          have B5 := below_set (j := 0) B4 (show w.heap.size ≤ w.heap.size + 1 by omega) (.bool !neg2)
          clear cP0_4 cP1_4 cP2_4 fP0_4 fP1_4 fP2_4 sP_4 cQ0_4 cQ1_4 cQ2_4 fQ0_4 fQ1_4 fQ2_4 sQ_4 P4 Q4 x4 y4 B4
          generalize w4.setCell ⟨w.heap.size + 1, 0, none⟩ (.bool !neg2) = w5 at *
          obtain ⟨cP0_5, cP1_5, cP2_5, fP0_5, fP1_5, fP2_5, sP_5⟩ := P5.open3
          obtain ⟨cQ0_5, cQ1_5, cQ2_5, fQ0_5, fQ1_5, fQ2_5, sQ_5⟩ := Q5.open3
          go_wp2_with
        (first
          | (go_at_call 25; (with_reducible refine (AD.out _ _ _ x5 y5).mono ?_); rintro e w6 ⟨vz6, rfl, z6, hb6⟩; have B6 := B5.trans (hb6.mono B5.size); have x6 := x5.below hb6; have y6 := y5.below hb6; clear x5 y5; obtain ⟨az6, kz6, rfl, -⟩ := z6.view; try simp only [List.length_nil] at z6)
          | (go_at_call 23; (with_reducible refine (SG.out _ _ z6).mono ?_); rintro e w7 ⟨rfl, hb7⟩; have B7 := B6.trans (hb7.mono B6.size); have x7 := x6.below hb7; have y7 := y6.below hb7; have z7 := z6.below hb7; clear x6 y6 z6)
          | fail)
          go_ret
          exact ⟨rfl, by assumption⟩
      · have htb : (t1 == t2) = false := beq_false_of_ne htt
        have hcm : cmpM ⟨neg2, M, E⟩ ⟨neg2, M2, E2⟩ = cmpI t1 t2 := by
          have q1 := et1.out; have q2 := et2.out
          unfold topD at q1 q2
          simp only at q1 q2
          rw [cmpM_tops n1 n2 (by simp only; omega)]
          simp only
          unfold cmpI
          rcases Int.lt_trichotomy t1 t2 with h | h | h
          · rw [if_pos (by omega), if_pos h]
          · exact absurd h htt
          · rw [if_neg (by omega), if_pos (by omega), if_neg (by omega), if_pos (by omega)]
        rw [hcm] at hc
        clear hcm
        go_region_held3 (fun w' => (w'.cell? ⟨w.heap.size, 0, none⟩ = some (.bool neg2) ∧ w'.cell? ⟨w.heap.size, 1, none⟩ = some (.slice au nu ku) ∧ w'.cell? ⟨w.heap.size, 2, none⟩ = some (.int .i64 E)) ∧ w'.cell? ⟨w.heap.size + 1, 0, none⟩ = some (.bool neg2) ∧ w'.cell? ⟨w.heap.size + 1, 1, none⟩ = some (.slice av nv kv) ∧ w'.cell? ⟨w.heap.size + 1, 2, none⟩ = some (.int .i64 E2)) (first | with_reducible exact ⟨⟨cP0_2, cP1_2, cP2_2⟩, cQ0_2, cQ1_2, cQ2_2⟩ | with_reducible exact ⟨⟨cP0_3, cP1_3, cP2_3⟩, cQ0_3, cQ1_3, cQ2_3⟩ | with_reducible exact ⟨⟨cP0_4, cP1_4, cP2_4⟩, cQ0_4, cQ1_4, cQ2_4⟩)
        (first
          | (go_at_call 24; (with_reducible refine (HT1.out _ _ x2).mono ?_); rintro e w3 ⟨rfl, hb3⟩; have B3 := B2.trans (hb3.mono B2.size); have x3 := x2.below hb3; have y3 := y2.below hb3; have P3 := P2.below hb3; have Q3 := Q2.below hb3; clear x2 y2 P2 Q2; obtain ⟨cP0_3, cP1_3, cP2_3, fP0_3, fP1_3, fP2_3, sP_3⟩ := P3.open3; obtain ⟨cQ0_3, cQ1_3, cQ2_3, fQ0_3, fQ1_3, fQ2_3, sQ_3⟩ := Q3.open3)
          | (go_at_call 24; (with_reducible refine (HT2.out _ _ y3).mono ?_); rintro e w4 ⟨rfl, hb4⟩; have B4 := B3.trans (hb4.mono B3.size); have x4 := x3.below hb4; have y4 := y3.below hb4; have P4 := P3.below hb4; have Q4 := Q3.below hb4; clear x3 y3 P3 Q3; clear cP0_3 cP1_3 cP2_3 fP0_3 fP1_3 fP2_3 sP_3; obtain ⟨cP0_4, cP1_4, cP2_4, fP0_4, fP1_4, fP2_4, sP_4⟩ := P4.open3; clear cQ0_3 cQ1_3 cQ2_3 fQ0_3 fQ1_3 fQ2_3 sQ_3; obtain ⟨cQ0_4, cQ1_4, cQ2_4, fQ0_4, fQ1_4, fQ2_4, sQ_4⟩ := Q4.open3)
          | fail)
        all_goals
          go_upto_region 9 with fail
          have hAD5 : Below w4.heap.size w4 w4.drew := below_drewN (Below.refl _ _) 1
          have x5 := x4.below hAD5; have y5 := y4.below hAD5; have P5 := P4.below hAD5; have Q5 := Q4.below hAD5
          have B5 := B4.trans (hAD5.mono B4.size)
          obtain ⟨cP0_5, cP1_5, cP2_5, fP0_5, fP1_5, fP2_5, sP_5⟩ := P5.open3
          obtain ⟨cQ0_5, cQ1_5, cQ2_5, fQ0_5, fQ1_5, fQ2_5, sQ_5⟩ := Q5.open3
          unfold cmpI at hc
          rcases Int.lt_trichotomy t1 t2 with hl | hl | hl
          · rw [if_pos hl] at hc
            have d1 : decide (t1 < t2) = true := decide_eq_true hl
            cases neg2
            · simp only [Bool.false_eq_true, if_false] at hsn
              subst hsn
              subst hc
              go_region_held3 (fun w' => (w'.cell? ⟨w.heap.size, 0, none⟩ = some (.bool false) ∧ w'.cell? ⟨w.heap.size, 1, none⟩ = some (.slice au nu ku) ∧ w'.cell? ⟨w.heap.size, 2, none⟩ = some (.int .i64 E)) ∧ w'.cell? ⟨w.heap.size + 1, 0, none⟩ = some (.bool false) ∧ w'.cell? ⟨w.heap.size + 1, 1, none⟩ = some (.slice av nv kv) ∧ w'.cell? ⟨w.heap.size + 1, 2, none⟩ = some (.int .i64 E2)) (first | with_reducible exact ⟨⟨cP0_5, cP1_5, cP2_5⟩, cQ0_5, cQ1_5, cQ2_5⟩ | with_reducible exact ⟨⟨cP0_6, cP1_6, cP2_6⟩, cQ0_6, cQ1_6, cQ2_6⟩ | with_reducible exact ⟨⟨cP0_7, cP1_7, cP2_7⟩, cQ0_7, cQ1_7, cQ2_7⟩)
              (first
                | (go_at_call 24; (with_reducible refine (HT1.out _ _ x5).mono ?_); rintro e w6 ⟨rfl, hb6⟩; have B6 := B5.trans (hb6.mono B5.size); have x6 := x5.below hb6; have y6 := y5.below hb6; have P6 := P5.below hb6; have Q6 := Q5.below hb6; clear x5 y5 P5 Q5; obtain ⟨cP0_6, cP1_6, cP2_6, fP0_6, fP1_6, fP2_6, sP_6⟩ := P6.open3; obtain ⟨cQ0_6, cQ1_6, cQ2_6, fQ0_6, fQ1_6, fQ2_6, sQ_6⟩ := Q6.open3)
                | (go_at_call 24; (with_reducible refine (HT2.out _ _ y6).mono ?_); rintro e w7 ⟨rfl, hb7⟩; have B7 := B6.trans (hb7.mono B6.size); have x7 := x6.below hb7; have y7 := y6.below hb7; have P7 := P6.below hb7; have Q7 := Q6.below hb7; clear x6 y6 P6 Q6; clear cP0_6 cP1_6 cP2_6 fP0_6 fP1_6 fP2_6 sP_6; obtain ⟨cP0_7, cP1_7, cP2_7, fP0_7, fP1_7, fP2_7, sP_7⟩ := P7.open3; clear cQ0_6 cQ1_6 cQ2_6 fQ0_6 fQ1_6 fQ2_6 sQ_6; obtain ⟨cQ0_7, cQ1_7, cQ2_7, fQ0_7, fQ1_7, fQ2_7, sQ_7⟩ := Q7.open3)
                | fail)
              all_goals
                go_wp2_with fail
                go_ret
                exact ⟨rfl, by assumption⟩
            · simp only [if_true] at hsn
              subst hsn
              subst hc
              go_region_held3 (fun w' => (w'.cell? ⟨w.heap.size, 0, none⟩ = some (.bool true) ∧ w'.cell? ⟨w.heap.size, 1, none⟩ = some (.slice au nu ku) ∧ w'.cell? ⟨w.heap.size, 2, none⟩ = some (.int .i64 E)) ∧ w'.cell? ⟨w.heap.size + 1, 0, none⟩ = some (.bool true) ∧ w'.cell? ⟨w.heap.size + 1, 1, none⟩ = some (.slice av nv kv) ∧ w'.cell? ⟨w.heap.size + 1, 2, none⟩ = some (.int .i64 E2)) (first | with_reducible exact ⟨⟨cP0_5, cP1_5, cP2_5⟩, cQ0_5, cQ1_5, cQ2_5⟩ | with_reducible exact ⟨⟨cP0_6, cP1_6, cP2_6⟩, cQ0_6, cQ1_6, cQ2_6⟩ | with_reducible exact ⟨⟨cP0_7, cP1_7, cP2_7⟩, cQ0_7, cQ1_7, cQ2_7⟩)
              (first
                | (go_at_call 24; (with_reducible refine (HT1.out _ _ x5).mono ?_); rintro e w6 ⟨rfl, hb6⟩; have B6 := B5.trans (hb6.mono B5.size); have x6 := x5.below hb6; have y6 := y5.below hb6; have P6 := P5.below hb6; have Q6 := Q5.below hb6; clear x5 y5 P5 Q5; obtain ⟨cP0_6, cP1_6, cP2_6, fP0_6, fP1_6, fP2_6, sP_6⟩ := P6.open3; obtain ⟨cQ0_6, cQ1_6, cQ2_6, fQ0_6, fQ1_6, fQ2_6, sQ_6⟩ := Q6.open3)
                | (go_at_call 24; (with_reducible refine (HT2.out _ _ y6).mono ?_); rintro e w7 ⟨rfl, hb7⟩; have B7 := B6.trans (hb7.mono B6.size); have x7 := x6.below hb7; have y7 := y6.below hb7; have P7 := P6.below hb7; have Q7 := Q6.below hb7; clear x6 y6 P6 Q6; clear cP0_6 cP1_6 cP2_6 fP0_6 fP1_6 fP2_6 sP_6; obtain ⟨cP0_7, cP1_7, cP2_7, fP0_7, fP1_7, fP2_7, sP_7⟩ := P7.open3; clear cQ0_6 cQ1_6 cQ2_6 fQ0_6 fQ1_6 fQ2_6 sQ_6; obtain ⟨cQ0_7, cQ1_7, cQ2_7, fQ0_7, fQ1_7, fQ2_7, sQ_7⟩ := Q7.open3)
                | fail)
              all_goals
                go_wp2_with fail
                go_ret
                exact ⟨rfl, by assumption⟩
          · exact absurd hl htt
          · rw [if_neg (by omega), if_pos hl] at hc
            have d1 : decide (t1 < t2) = false := decide_eq_false (by omega)
            cases neg2
            · simp only [Bool.false_eq_true, if_false] at hsn
              subst hsn
              subst hc
              go_region_held3 (fun w' => (w'.cell? ⟨w.heap.size, 0, none⟩ = some (.bool false) ∧ w'.cell? ⟨w.heap.size, 1, none⟩ = some (.slice au nu ku) ∧ w'.cell? ⟨w.heap.size, 2, none⟩ = some (.int .i64 E)) ∧ w'.cell? ⟨w.heap.size + 1, 0, none⟩ = some (.bool false) ∧ w'.cell? ⟨w.heap.size + 1, 1, none⟩ = some (.slice av nv kv) ∧ w'.cell? ⟨w.heap.size + 1, 2, none⟩ = some (.int .i64 E2)) (first | with_reducible exact ⟨⟨cP0_5, cP1_5, cP2_5⟩, cQ0_5, cQ1_5, cQ2_5⟩ | with_reducible exact ⟨⟨cP0_6, cP1_6, cP2_6⟩, cQ0_6, cQ1_6, cQ2_6⟩ | with_reducible exact ⟨⟨cP0_7, cP1_7, cP2_7⟩, cQ0_7, cQ1_7, cQ2_7⟩)
              (first
                | (go_at_call 24; (with_reducible refine (HT1.out _ _ x5).mono ?_); rintro e w6 ⟨rfl, hb6⟩; have B6 := B5.trans (hb6.mono B5.size); have x6 := x5.below hb6; have y6 := y5.below hb6; have P6 := P5.below hb6; have Q6 := Q5.below hb6; clear x5 y5 P5 Q5; obtain ⟨cP0_6, cP1_6, cP2_6, fP0_6, fP1_6, fP2_6, sP_6⟩ := P6.open3; obtain ⟨cQ0_6, cQ1_6, cQ2_6, fQ0_6, fQ1_6, fQ2_6, sQ_6⟩ := Q6.open3)
                | (go_at_call 24; (with_reducible refine (HT2.out _ _ y6).mono ?_); rintro e w7 ⟨rfl, hb7⟩; have B7 := B6.trans (hb7.mono B6.size); have x7 := x6.below hb7; have y7 := y6.below hb7; have P7 := P6.below hb7; have Q7 := Q6.below hb7; clear x6 y6 P6 Q6; clear cP0_6 cP1_6 cP2_6 fP0_6 fP1_6 fP2_6 sP_6; obtain ⟨cP0_7, cP1_7, cP2_7, fP0_7, fP1_7, fP2_7, sP_7⟩ := P7.open3; clear cQ0_6 cQ1_6 cQ2_6 fQ0_6 fQ1_6 fQ2_6 sQ_6; obtain ⟨cQ0_7, cQ1_7, cQ2_7, fQ0_7, fQ1_7, fQ2_7, sQ_7⟩ := Q7.open3)
                | fail)
              all_goals
                go_wp2_with fail
                go_ret
                exact ⟨rfl, by assumption⟩
            · simp only [if_true] at hsn
              subst hsn
              subst hc
              go_region_held3 (fun w' => (w'.cell? ⟨w.heap.size, 0, none⟩ = some (.bool true) ∧ w'.cell? ⟨w.heap.size, 1, none⟩ = some (.slice au nu ku) ∧ w'.cell? ⟨w.heap.size, 2, none⟩ = some (.int .i64 E)) ∧ w'.cell? ⟨w.heap.size + 1, 0, none⟩ = some (.bool true) ∧ w'.cell? ⟨w.heap.size + 1, 1, none⟩ = some (.slice av nv kv) ∧ w'.cell? ⟨w.heap.size + 1, 2, none⟩ = some (.int .i64 E2)) (first | with_reducible exact ⟨⟨cP0_5, cP1_5, cP2_5⟩, cQ0_5, cQ1_5, cQ2_5⟩ | with_reducible exact ⟨⟨cP0_6, cP1_6, cP2_6⟩, cQ0_6, cQ1_6, cQ2_6⟩ | with_reducible exact ⟨⟨cP0_7, cP1_7, cP2_7⟩, cQ0_7, cQ1_7, cQ2_7⟩)
              (first
                | (go_at_call 24; (with_reducible refine (HT1.out _ _ x5).mono ?_); rintro e w6 ⟨rfl, hb6⟩; have B6 := B5.trans (hb6.mono B5.size); have x6 := x5.below hb6; have y6 := y5.below hb6; have P6 := P5.below hb6; have Q6 := Q5.below hb6; clear x5 y5 P5 Q5; obtain ⟨cP0_6, cP1_6, cP2_6, fP0_6, fP1_6, fP2_6, sP_6⟩ := P6.open3; obtain ⟨cQ0_6, cQ1_6, cQ2_6, fQ0_6, fQ1_6, fQ2_6, sQ_6⟩ := Q6.open3)
                | (go_at_call 24; (with_reducible refine (HT2.out _ _ y6).mono ?_); rintro e w7 ⟨rfl, hb7⟩; have B7 := B6.trans (hb7.mono B6.size); have x7 := x6.below hb7; have y7 := y6.below hb7; have P7 := P6.below hb7; have Q7 := Q6.below hb7; clear x6 y6 P6 Q6; clear cP0_6 cP1_6 cP2_6 fP0_6 fP1_6 fP2_6 sP_6; obtain ⟨cP0_7, cP1_7, cP2_7, fP0_7, fP1_7, fP2_7, sP_7⟩ := P7.open3; clear cQ0_6 cQ1_6 cQ2_6 fQ0_6 fQ1_6 fQ2_6 sQ_6; obtain ⟨cQ0_7, cQ1_7, cQ2_7, fQ0_7, fQ1_7, fQ2_7, sQ_7⟩ := Q7.open3)
                | fail)
              all_goals
                go_wp2_with fail
                go_ret
                exact ⟨rfl, by assumption⟩
end Go.Proofs.YtflkemcoomgoiaaDoor
