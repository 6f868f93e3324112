/- ratio.against by its contract. Conditions: the numbers are short; math/bits' table stands in its variable. -/
import Derived.Test.YtegpfmfobeigfaaDoorRat2
import Derived.Deep.RegionHeld3
import Derived.Deep.CutBlock
namespace Go.Proofs.YtegpfmfobeigfaaDoor
set_option maxRecDepth 100000
open Go.RowKit Go.ChangeShapes Go.WideShapes

/-- One against a product, where the tops tell. -/
theorem against_tops {A B : Nat} {Ea Eb : Int} (hA : A ≠ 0) (hB : B ≠ 0) :
    (0 < topD ⟨false, A, Ea⟩ + topD ⟨false, B, Eb⟩ → cmpM ⟨false, 1, 0⟩ ⟨false, A * B, Ea + Eb⟩ = -1) ∧ (topD ⟨false, A, Ea⟩ + topD ⟨false, B, Eb⟩ < -1 → cmpM ⟨false, 1, 0⟩ ⟨false, A * B, Ea + Eb⟩ = 1) := by
  have h1 := bitN_mul_le A B
  have h2 := bitN_mul_ge hA hB
  have hAB : A * B ≠ 0 := Nat.mul_ne_zero hA hB
  have pA := bitN_pos hA; have pB := bitN_pos hB
  unfold topD
  simp only
  refine ⟨fun h => ?_, fun h => ?_⟩
  · rw [cmpM_tops (a := ⟨false, 1, 0⟩) (b := ⟨false, A * B, Ea + Eb⟩) (by simp) hAB (by simp only [bitN_one]; omega)]
    simp only [bitN_one]
    unfold cmpI
    rw [if_pos (by omega)]
  · rw [cmpM_tops (a := ⟨false, 1, 0⟩) (b := ⟨false, A * B, Ea + Eb⟩) (by simp) hAB (by simp only [bitN_one]; omega)]
    simp only [bitN_one]
    unfold cmpI
    rw [if_neg (by omega), if_pos (by omega)]
theorem bareD_odd {neg : Bool} {M : Nat} {E : Int} (h : M % 2 = 1) (h1 : -2147483648 ≤ E) (h2 : E ≤ 2147483648) : bareD ⟨neg, M, E⟩ = ⟨neg, M, E⟩ := by
  rw [bareD_pos (show (⟨neg, M, E⟩ : Dn).m ≠ 0 by simp only; omega)]
  simp only [low2_odd h, Nat.pow_zero, Nat.div_one]
  unfold cutE
  congr 1
  omega

set_option maxHeartbeats 1000000 in
theorem against_n {w : World} {v u : Value} {A B : Nat} {Ea Eb c : Int} (h : RdN w v (digs BB A)) (k : RdN w u (digs BB B)) (hT : Tab w) (sA : bitN A ≤ 65000) (sB : bitN B ≤ 65000) (oA : A % 2 = 1) (oB : B % 2 = 1) (ha : Ea.natAbs ≤ 60000) (hb : Eb.natAbs ≤ 60000)
    (hc : cmpM ⟨false, 1, 0⟩ ⟨false, A * B, Ea + Eb⟩ = c) :
    Calls Tryd.prog 40 #[.agg #[.bool false, v, .int .i64 Ea], .agg #[.bool false, u, .int .i64 Eb]] w (fun e w' => e = .returned (.tuple #[.int .i64 c, .int .i64 0]) ∧ Below w.heap.size w w') := by
  obtain ⟨av, kv, rfl, -⟩ := h.view
  obtain ⟨au, ku, rfl, -⟩ := k.view
  have nA : A ≠ 0 := by omega
  have nB : B ≠ 0 := by omega
  obtain ⟨t1, t2⟩ := against_tops (Ea := Ea) (Eb := Eb) nA nB
  obtain ⟨x, hx⟩ : ∃ x, topD ⟨false, A, Ea⟩ = x := ⟨_, rfl⟩
  obtain ⟨y, hy⟩ : ∃ y, topD ⟨false, B, Eb⟩ = y := ⟨_, rfl⟩
  rw [hx, hy, hc] at t1 t2
  have bA := bareD_odd (neg := false) (E := Ea) oA (by omega) (by omega)
  have bB := bareD_odd (neg := false) (E := Eb) oB (by omega) (by omega)
  have sA2 : bitN A ≤ 2560000 := by omega
  have sB2 : bitN B ≤ 2560000 := by omega
  have HTa := Lib.hid (fun w v (h : Num w v A) (hT : Tab w) => Top_n (neg := false) h hT (by omega) (by omega) bA nA)
  have HTb := Lib.hid (fun w v (h : Num w v B) (hT : Tab w) => Top_n (neg := false) h hT (by omega) (by omega) bB nB)
  rw [hx] at HTa
  rw [hy] at HTb
  have rx : x.natAbs ≤ 130000 := by rw [← hx]; unfold topD; simp only; omega
  have ry : y.natAbs ≤ 130000 := by rw [← hy]; unfold topD; simp only; omega
  obtain ⟨z, hz⟩ : ∃ z, x + y = z := ⟨_, rfl⟩
  have hzw : wrap64 z = z := by unfold wrap64; omega
  rw [hz] at t1 t2
  clear hx hy bA bB
  by_cases hz1 : 0 < z
  · have hd1 : decide (0 < z) = true := decide_eq_true hz1
    have hc1 := t1 hz1
    clear t1 t2 hc
    subst hc1
    go_enter Tryd.func40, Tryd.ntmps40
    go_wp2_with
    (first
      | (go_at_call 46; (with_reducible refine (HTa.out _ _ ((h.below below_2).num sA2) (hT.below below_2)).mono ?_); rintro e w1 ⟨rfl, hb1⟩; have B1 := below_2.trans (hb1.mono below_2.size); have a1 := ((h.below below_2)).below hb1; have b1 := ((k.below below_2)).below hb1; have T1 := ((hT.below below_2)).below hb1; have P1 := ((blk_a1)).below hb1; have Q1 := ((blk_a2)).below hb1; obtain ⟨cP0_1, cP1_1, cP2_1, fP0_1, fP1_1, fP2_1, sP_1⟩ := P1.open3; obtain ⟨cQ0_1, cQ1_1, cQ2_1, fQ0_1, fQ1_1, fQ2_1, sQ_1⟩ := Q1.open3)
      | (go_at_call 46; (with_reducible refine (HTb.out _ _ (b1.num sB2) T1).mono ?_); rintro e w2 ⟨rfl, hb2⟩; have B2 := B1.trans (hb2.mono B1.size); have a2 := a1.below hb2; have b2 := b1.below hb2; have T2 := T1.below hb2; have P2 := P1.below hb2; have Q2 := Q1.below hb2; clear a1 b1 T1 P1 Q1; clear cP0_1 cP1_1 cP2_1 fP0_1 fP1_1 fP2_1 sP_1; obtain ⟨cP0_2, cP1_2, cP2_2, fP0_2, fP1_2, fP2_2, sP_2⟩ := P2.open3; clear cQ0_1 cQ1_1 cQ2_1 fQ0_1 fQ1_1 fQ2_1 sQ_1; obtain ⟨cQ0_2, cQ1_2, cQ2_2, fQ0_2, fQ1_2, fQ2_2, sQ_2⟩ := Q2.open3)
      | fail)
    go_ret2
    exact ⟨rfl, by assumption⟩
  · have hd1 : decide (0 < z) = false := decide_eq_false hz1
    by_cases hz2 : z < -1
    · have hd2 : decide (z < -1) = true := decide_eq_true hz2
      have hc1 := t2 hz2
      clear t1 t2 hc
      subst hc1
      go_enter Tryd.func40, Tryd.ntmps40
      go_wp2_with
      (first
        | (go_at_call 46; (with_reducible refine (HTa.out _ _ ((h.below below_2).num sA2) (hT.below below_2)).mono ?_); rintro e w1 ⟨rfl, hb1⟩; have B1 := below_2.trans (hb1.mono below_2.size); have a1 := ((h.below below_2)).below hb1; have b1 := ((k.below below_2)).below hb1; have T1 := ((hT.below below_2)).below hb1; have P1 := ((blk_a1)).below hb1; have Q1 := ((blk_a2)).below hb1; obtain ⟨cP0_1, cP1_1, cP2_1, fP0_1, fP1_1, fP2_1, sP_1⟩ := P1.open3; obtain ⟨cQ0_1, cQ1_1, cQ2_1, fQ0_1, fQ1_1, fQ2_1, sQ_1⟩ := Q1.open3)
        | (go_at_call 46; (with_reducible refine (HTb.out _ _ (b1.num sB2) T1).mono ?_); rintro e w2 ⟨rfl, hb2⟩; have B2 := B1.trans (hb2.mono B1.size); have a2 := a1.below hb2; have b2 := b1.below hb2; have T2 := T1.below hb2; have P2 := P1.below hb2; have Q2 := Q1.below hb2; clear a1 b1 T1 P1 Q1; clear cP0_1 cP1_1 cP2_1 fP0_1 fP1_1 fP2_1 sP_1; obtain ⟨cP0_2, cP1_2, cP2_2, fP0_2, fP1_2, fP2_2, sP_2⟩ := P2.open3; clear cQ0_1 cQ1_1 cQ2_1 fQ0_1 fQ1_1 fQ2_1 sQ_1; obtain ⟨cQ0_2, cQ1_2, cQ2_2, fQ0_2, fQ1_2, fQ2_2, sQ_2⟩ := Q2.open3)
        | fail)
      go_ret2
      exact ⟨rfl, by assumption⟩
    · have hd2 : decide (z < -1) = false := decide_eq_false hz2
      clear t1 t2
      have b1 : bareD ⟨false, 1, 0⟩ = ⟨false, 1, 0⟩ := bareD_odd rfl (by decide) (by decide)
      have HO := Lib.hid (fun w (hT : Tab w) => show Calls Tryd.prog 21 #[.int .i64 1] w _ from Of_n (n := 1) (by decide) hT b1)
      go_enter Tryd.func40, Tryd.ntmps40
      go_upto_region 8 with
      (first
        | (go_at_call 46; (with_reducible refine (HTa.out _ _ ((h.below below_2).num sA2) (hT.below below_2)).mono ?_); rintro e w1 ⟨rfl, hb1⟩; have B1 := below_2.trans (hb1.mono below_2.size); have a1 := ((h.below below_2)).below hb1; have b1 := ((k.below below_2)).below hb1; have T1 := ((hT.below below_2)).below hb1; have P1 := ((blk_a1)).below hb1; have Q1 := ((blk_a2)).below hb1; obtain ⟨cP0_1, cP1_1, cP2_1, fP0_1, fP1_1, fP2_1, sP_1⟩ := P1.open3; obtain ⟨cQ0_1, cQ1_1, cQ2_1, fQ0_1, fQ1_1, fQ2_1, sQ_1⟩ := Q1.open3)
        | (go_at_call 46; (with_reducible refine (HTb.out _ _ (b1.num sB2) T1).mono ?_); rintro e w2 ⟨rfl, hb2⟩; have B2 := B1.trans (hb2.mono B1.size); have a2 := a1.below hb2; have b2 := b1.below hb2; have T2 := T1.below hb2; have P2 := P1.below hb2; have Q2 := Q1.below hb2; clear a1 b1 T1 P1 Q1; clear cP0_1 cP1_1 cP2_1 fP0_1 fP1_1 fP2_1 sP_1; obtain ⟨cP0_2, cP1_2, cP2_2, fP0_2, fP1_2, fP2_2, sP_2⟩ := P2.open3; clear cQ0_1 cQ1_1 cQ2_1 fQ0_1 fQ1_1 fQ2_1 sQ_1; obtain ⟨cQ0_2, cQ1_2, cQ2_2, fQ0_2, fQ1_2, fQ2_2, sQ_2⟩ := Q2.open3)
        | (go_at_call 21; (with_reducible refine (HO.out _ T2).mono ?_); rintro e w3 ⟨vo3, rfl, o3, hb3⟩; have B3 := B2.trans (hb3.mono B2.size); have a3 := a2.below hb3; have b3 := b2.below hb3; have T3 := T2.below hb3; have P3 := P2.below hb3; have Q3 := Q2.below hb3; clear a2 b2 T2 P2 Q2; clear cP0_2 cP1_2 cP2_2 fP0_2 fP1_2 fP2_2 sP_2; obtain ⟨cP0_3, cP1_3, cP2_3, fP0_3, fP1_3, fP2_3, sP_3⟩ := P3.open3; clear cQ0_2 cQ1_2 cQ2_2 fQ0_2 fQ1_2 fQ2_2 sQ_2; obtain ⟨cQ0_3, cQ1_3, cQ2_3, fQ0_3, fQ1_3, fQ2_3, sQ_3⟩ := Q3.open3; obtain ⟨uo3, rfl, o3⟩ := o3; obtain ⟨ao3, ko3, rfl, -⟩ := o3.view)
        | fail)
      have O4 : Blk (w3.alloc (.cells #[.bool false, .slice ao3 (digs BB 1).length ko3, .int .i64 0] 30)) w3.heap.size #[.bool false, .slice ao3 (digs BB 1).length ko3, .int .i64 0] := blk_new
      have P4 : Blk (w3.alloc (.cells #[.bool false, .slice ao3 (digs BB 1).length ko3, .int .i64 0] 30)) _ _ := P3.below (below_alloc _ _)
      have Q4 : Blk (w3.alloc (.cells #[.bool false, .slice ao3 (digs BB 1).length ko3, .int .i64 0] 30)) _ _ := Q3.below (below_alloc _ _)
      have a4 : RdN (w3.alloc (.cells #[.bool false, .slice ao3 (digs BB 1).length ko3, .int .i64 0] 30)) _ _ := a3.below (below_alloc _ _)
      have b4 : RdN (w3.alloc (.cells #[.bool false, .slice ao3 (digs BB 1).length ko3, .int .i64 0] 30)) _ _ := b3.below (below_alloc _ _)
      have o4 : RdN (w3.alloc (.cells #[.bool false, .slice ao3 (digs BB 1).length ko3, .int .i64 0] 30)) _ _ := o3.below (below_alloc _ _)
      have B4 : Below w.heap.size w (w3.alloc (.cells #[.bool false, .slice ao3 (digs BB 1).length ko3, .int .i64 0] 30)) := below_right B3 _
      clear cP0_3 cP1_3 cP2_3 fP0_3 fP1_3 fP2_3 sP_3 cQ0_3 cQ1_3 cQ2_3 fQ0_3 fQ1_3 fQ2_3 sQ_3 P3 Q3 a3 b3 o3 B3 T3
      generalize w3.alloc (.cells #[.bool false, .slice ao3 (digs BB 1).length ko3, .int .i64 0] 30) = w4 at *
      generalize w3.heap.size = bo at *
      generalize hb0 : w.heap.size = b0 at *
      have hwE : IntKind.i64.wrap (Ea + Eb) = Ea + Eb := by rw [IntKind.wrap_i64]; omega
      go_cut [11] (fun r wx => ∃ br am km, r = .pointer (some ⟨br, 0, none⟩) ∧ Blk wx br #[.bool false, .slice am (digs BB (A * B)).length km, .int .i64 (Ea + Eb)] ∧ RdN wx (.slice am (digs BB (A * B)).length km) (digs BB (A * B)) ∧ Blk wx bo #[.bool false, .slice ao3 (digs BB 1).length ko3, .int .i64 0] ∧ RdN wx (.slice ao3 (digs BB 1).length ko3) (digs BB 1) ∧ Below b0 w wx)
      case first =>
        have PD : Blk w4.drew _ _ := P4.below (below_drewN (Below.refl _ _) 1)
        have QD : Blk w4.drew _ _ := Q4.below (below_drewN (Below.refl _ _) 1)
        have OD : Blk w4.drew _ _ := O4.below (below_drewN (Below.refl _ _) 1)
        have aD : RdN w4.drew _ _ := a4.below (below_drewN (Below.refl _ _) 1)
        have bD : RdN w4.drew _ _ := b4.below (below_drewN (Below.refl _ _) 1)
        have oD : RdN w4.drew _ _ := o4.below (below_drewN (Below.refl _ _) 1)
        have BD : Below b0 w w4.drew := below_drewN B4 1
        have hAD : Below w4.heap.size w4 (w4.alloc (.cells #[.bool false, .slice none 0 0, .int .i64 0] 30)).drew := below_drewN (below_alloc w4 _) 1
        have PA : Blk (w4.alloc (.cells #[.bool false, .slice none 0 0, .int .i64 0] 30)).drew _ _ := P4.below hAD
        have QA : Blk (w4.alloc (.cells #[.bool false, .slice none 0 0, .int .i64 0] 30)).drew _ _ := Q4.below hAD
        have OA : Blk (w4.alloc (.cells #[.bool false, .slice none 0 0, .int .i64 0] 30)).drew _ _ := O4.below hAD
        have aA : RdN (w4.alloc (.cells #[.bool false, .slice none 0 0, .int .i64 0] 30)).drew _ _ := a4.below hAD
        have bA : RdN (w4.alloc (.cells #[.bool false, .slice none 0 0, .int .i64 0] 30)).drew _ _ := b4.below hAD
        have oA' : RdN (w4.alloc (.cells #[.bool false, .slice none 0 0, .int .i64 0] 30)).drew _ _ := o4.below hAD
        have NA : Blk (w4.alloc (.cells #[.bool false, .slice none 0 0, .int .i64 0] 30)).drew w4.heap.size #[.bool false, .slice none 0 0, .int .i64 0] := blk_new.below (below_drewN (Below.refl _ _) 1)
        have BA : Below b0 w (w4.alloc (.cells #[.bool false, .slice none 0 0, .int .i64 0] 30)).drew := B4.trans (hAD.mono (hb0 ▸ B4.size))
        have hbo := O4.1
        have hbP := P4.1
        have hbQ := Q4.1
        have hb4 : b0 ≤ w4.heap.size := hb0 ▸ B4.size
        obtain ⟨cP0_0, cP1_0, cP2_0, fP0_0, fP1_0, fP2_0, sP_0⟩ := PD.open3
        obtain ⟨cQ0_0, cQ1_0, cQ2_0, fQ0_0, fQ1_0, fQ2_0, sQ_0⟩ := QD.open3
        go_region_held3 (fun w' => w'.cell? ⟨b0, 1, none⟩ = some (.slice av (digs BB A).length kv) ∧ w'.cell? ⟨b0, 2, none⟩ = some (.int .i64 Ea) ∧ w'.cell? ⟨b0 + 1, 1, none⟩ = some (.slice au (digs BB B).length ku) ∧ w'.cell? ⟨b0 + 1, 2, none⟩ = some (.int .i64 Eb)) (first | exact ⟨cP1_0, cP2_0, cQ1_0, cQ2_0⟩ | exact ⟨PA.open3.2.1, PA.open3.2.2.1, QA.open3.2.1, QA.open3.2.2.1⟩ | exact ⟨cP1_1, cP2_1, cQ1_1, cQ2_1⟩ | exact ⟨(P1.below (below_alloc _ _)).open3.2.1, (P1.below (below_alloc _ _)).open3.2.2.1, (Q1.below (below_alloc _ _)).open3.2.1, (Q1.below (below_alloc _ _)).open3.2.2.1⟩ | exact ⟨(P1.other3 (Nat.ne_of_lt hbP) _ _ _).open3.2.1, (P1.other3 (Nat.ne_of_lt hbP) _ _ _).open3.2.2.1, (Q1.other3 (Nat.ne_of_lt hbQ) _ _ _).open3.2.1, (Q1.other3 (Nat.ne_of_lt hbQ) _ _ _).open3.2.2.1⟩ | exact ⟨((P1.below (below_alloc _ _)).other3 (Nat.ne_of_lt P1.1) _ _ _).open3.2.1, ((P1.below (below_alloc _ _)).other3 (Nat.ne_of_lt P1.1) _ _ _).open3.2.2.1, ((Q1.below (below_alloc _ _)).other3 (Nat.ne_of_lt Q1.1) _ _ _).open3.2.1, ((Q1.below (below_alloc _ _)).other3 (Nat.ne_of_lt Q1.1) _ _ _).open3.2.2.1⟩ | exact ⟨(PD.below (below_alloc _ _)).open3.2.1, (PD.below (below_alloc _ _)).open3.2.2.1, (QD.below (below_alloc _ _)).open3.2.1, (QD.below (below_alloc _ _)).open3.2.2.1⟩ | exact ⟨((PD.below (below_alloc _ _)).other3 (Nat.ne_of_lt PD.1) _ _ _).open3.2.1, ((PD.below (below_alloc _ _)).other3 (Nat.ne_of_lt PD.1) _ _ _).open3.2.2.1, ((QD.below (below_alloc _ _)).other3 (Nat.ne_of_lt QD.1) _ _ _).open3.2.1, ((QD.below (below_alloc _ _)).other3 (Nat.ne_of_lt QD.1) _ _ _).open3.2.2.1⟩)
        (first
          | (go_at_call 62; (with_reducible refine (multiplied_n aD bD sA sB).mono ?_); rintro e w1 ⟨vp1, rfl, p1, hb1⟩; have B1 := hb1; have a1 := aD.below hb1; have b1 := bD.below hb1; have o1 := oD.below hb1; have P1 := PD.below hb1; have Q1 := QD.below hb1; have O1 := OD.below hb1; clear aD bD oD PD QD OD; obtain ⟨cP0_1, cP1_1, cP2_1, fP0_1, fP1_1, fP2_1, sP_1⟩ := P1.open3; obtain ⟨cQ0_1, cQ1_1, cQ2_1, fQ0_1, fQ1_1, fQ2_1, sQ_1⟩ := Q1.open3; obtain ⟨cO0_1, cO1_1, cO2_1, fO0_1, fO1_1, fO2_1, sO_1⟩ := O1.open3; obtain ⟨ap1, kp1, rfl, -⟩ := p1.view; try simp only [List.length_nil] at p1)
          | (go_at_call 62; (with_reducible refine (multiplied_n aA bA sA sB).mono ?_); rintro e w1 ⟨vp1, rfl, p1, hb1⟩; have P1 := PA.below hb1; have Q1 := QA.below hb1; have O1 := OA.below hb1; have o1 := oA'.below hb1; have N1 := NA.below hb1; have BN1 := BA.trans (hb1.mono (hb0 ▸ BA.size)); obtain ⟨cP0_1, cP1_1, cP2_1, fP0_1, fP1_1, fP2_1, sP_1⟩ := P1.open3; obtain ⟨cQ0_1, cQ1_1, cQ2_1, fQ0_1, fQ1_1, fQ2_1, sQ_1⟩ := Q1.open3; obtain ⟨cN0_1, cN1_1, cN2_1, fN0_1, fN1_1, fN2_1, sN_1⟩ := N1.open3; obtain ⟨ap1, kp1, rfl, -⟩ := p1.view)
          | fail)
        · go_wp2_with fail
          go_meet
          exact ⟨w1.heap.size, ap1, kp1, rfl, blk_new, p1.below (below_alloc _ _), O1.below (below_alloc _ _), o1.below (below_alloc _ _), (BD.trans (hb1.mono (hb0 ▸ BD.size))).alloc (Nat.le_trans (hb0 ▸ BD.size) hb1.size) _⟩
        · go_wp2_with fail
          go_meet
          exact ⟨w4.heap.size, ap1, kp1, rfl, N1.set3 _ _ _, p1.set3 N1 dcells _ _ _, O1.other3 (Nat.ne_of_lt hbo) _ _ _, o1.set3 N1 dcells _ _ _, below_set3b BN1 hb4 _ _ _⟩
      case rest =>
        obtain ⟨br, am, km, rfl, R5, m5, O5, o5, B5⟩ := hcut
        have oAB : A * B % 2 = 1 := by rw [Nat.mul_mod, oA, oB]
        have bR := Lib.hid (bareD_odd (neg := false) (E := Ea + Eb) oAB (by omega) (by omega))
        have b1' := Lib.hid b1
        have sAB : bitN (A * B) ≤ 400000 := by have := bitN_mul_le A B; omega
        have sABn : bitN (A * B) ≤ 2560000 := by omega
        have s1 : bitN 1 ≤ 400000 := by rw [bitN_one]; omega
        have s1n : bitN 1 ≤ 2560000 := by rw [bitN_one]; omega
        have hcD : cmpD ⟨false, 1, 0⟩ ⟨false, A * B, Ea + Eb⟩ = c := by
          have e1 : signD ⟨false, 1, 0⟩ = 1 := rfl
          have e2 : signD ⟨false, A * B, Ea + Eb⟩ = 1 := by unfold signD; rw [if_neg (show (⟨false, A * B, Ea + Eb⟩ : Dn).m ≠ 0 by simp only; omega)]; rfl
          unfold cmpD
          rw [e1, e2, if_neg (by decide), hc, Int.one_mul]
        have ecD := Lib.hid hcD
        have hT5 : Tab wc := hT.below (hb0 ▸ B5)
        obtain ⟨cR0_0, cR1_0, cR2_0, fR0_0, fR1_0, fR2_0, sR_0⟩ := R5.open3
        obtain ⟨cO0_0, cO1_0, cO2_0, fO0_0, fO1_0, fO2_0, sO_0⟩ := O5.open3
        have hE1 : -9223372036854775808 ≤ Ea + Eb := by omega
        have hE2 : Ea + Eb ≤ 9223372036854775807 := by omega
        have hz1' : (-9223372036854775808 : Int) ≤ 0 := by decide
        have hz2' : (0 : Int) ≤ 9223372036854775807 := by decide
        clear hc hcD b1 P4 Q4 O4 a4 b4 o4 B4
        have BC := B5
        go_wp2_with
        (first
          | (go_at_call 22; (with_reducible refine (Cmp_n (o5.num s1n) (m5.num sABn) hT5 hz1' hz2' hE1 hE2 b1'.out bR.out s1 sAB ecD.out).mono ?_); rintro e w1 ⟨rfl, hb1⟩; have B1 := hb1; have m1 := o5.below hb1; have g1 := m5.below hb1; have T1 := hT5.below hb1; clear o5 m5 hT5)
          | fail)
        all_goals
          go_ret2
          exact ⟨rfl, hb0 ▸ BC.trans (hb1.mono (hb0 ▸ BC.size))⟩
end Go.Proofs.YtegpfmfobeigfaaDoor
