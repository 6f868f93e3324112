/- dyad.size and Cmp by their contracts. Conditions: the numbers are short; math/bits' table stands in its variable. -/
import Derived.Test.YtecgimdgmilcbaaDoorDy3
import Derived.Deep.RegionHeld3
import Derived.Deep.CutBlock
namespace Go.Proofs.YtecgimdgmilcbaaDoor
set_option maxRecDepth 100000
open Go.RowKit Go.ChangeShapes Go.WideShapes

theorem widened_i {w : World} {v : Value} {M : Nat} {n : Int} (h : RdN w v (digs BB M)) (hs : bitN M + n.toNat ≤ 2000000) (hn : n ≤ 2000000) :
    Calls Tryd.prog 76 #[v, .int .i64 n] w (fun e w' => ∃ v, e = .returned v ∧ Num w' v (M * 2 ^ n.toNat) ∧ Below w.heap.size w w') := by
  by_cases h0 : n ≤ 0
  · rw [show n.toNat = 0 by omega, Nat.pow_zero, Nat.mul_one]
    exact widened_zero (h.num (by omega)) h0
  · obtain ⟨m, rfl⟩ := Int.eq_ofNat_of_zero_le (show 0 ≤ n by omega)
    rw [Int.toNat_natCast] at hs ⊢
    exact widened_n h (by omega) hs
theorem compare_I {w : World} (x y : Int) : Calls Tryd.prog 49 #[.int .i64 x, .int .i64 y] w fun e w' => e = .returned (.int .i64 (cmpI x y)) ∧ w' = w := by
  have h := Tryd.cmp_Compare_int x y w
  unfold Lib.compareInt at h
  unfold cmpI
  exact h
theorem bareD_range {neg n' : Bool} {M M' : Nat} {E E' : Int} (h0 : M ≠ 0) (sM : bitN M ≤ 2560000) (e : bareD ⟨neg, M, E⟩ = ⟨n', M', E'⟩) : -2147483648 ≤ E' ∧ E' ≤ 2147483648 + 2560000 := by
  rw [bareD_pos h0] at e
  injection e with e1 e2 e3
  have h3 := cutE_range E
  have h4 := low2_lt h0
  simp only at e3
  omega
theorem bareD_nz {neg n' : Bool} {M M' : Nat} {E E' : Int} (h0 : M ≠ 0) (e : bareD ⟨neg, M, E⟩ = ⟨n', M', E'⟩) : M' ≠ 0 := by
  have := bareD_m_zero ⟨neg, M, E⟩
  rw [e] at this
  exact fun h => h0 (this.1 h)
theorem below_set3b {B : Nat} {w w' : World} (h : Below B w w') {b : Nat} (hb : B ≤ b) (x y z : Value) : Below B w (((w'.setCell ⟨b, 0, none⟩ x).setCell ⟨b, 1, none⟩ y).setCell ⟨b, 2, none⟩ z) :=
  ((h.setCell (p := ⟨b, 0, none⟩) hb x).setCell (p := ⟨b, 1, none⟩) hb y).setCell (p := ⟨b, 2, none⟩) hb z

set_option maxHeartbeats 1000000 in
theorem size_n {w : World} {v u : Value} {neg n' neg2 n2' : Bool} {M M' M2 M2' : Nat} {E E' E2 E2' c : Int} (h : Num w v M) (h' : Num w u M2) (hT : Tab w) (h1 : -9223372036854775808 ≤ E) (h2 : E ≤ 9223372036854775807) (h3 : -9223372036854775808 ≤ E2) (h4 : E2 ≤ 9223372036854775807)
    (e : bareD ⟨neg, M, E⟩ = ⟨n', M', E'⟩) (e2 : bareD ⟨neg2, M2, E2⟩ = ⟨n2', M2', E2'⟩) (h0 : M ≠ 0) (h0' : M2 ≠ 0) (sM : bitN M ≤ 400000) (sM2 : bitN M2 ≤ 400000) (hc : cmpM ⟨n', M', E'⟩ ⟨n2', M2', E2'⟩ = c) :
    Calls Tryd.prog 58 #[.agg #[.bool neg, v, .int .i64 E], .agg #[.bool neg2, u, .int .i64 E2]] w (fun e w' => e = .returned (.int .i64 c) ∧ Below w.heap.size w w') := by
  obtain ⟨a, n, k, rfl⟩ := h.slice
  obtain ⟨a2, m2, k2, rfl⟩ := h'.slice
  have sM' : bitN M' ≤ 400000 := by
    have := bareD_m_le ⟨neg, M, E⟩
    rw [e] at this
    exact Nat.le_trans (bitN_mono this) sM
  have sM2' : bitN M2' ≤ 400000 := by
    have := bareD_m_le ⟨neg2, M2, E2⟩
    rw [e2] at this
    exact Nat.le_trans (bitN_mono this) sM2
  have rE := bareD_range h0 (show bitN M ≤ 2560000 by omega) e
  have rE2 := bareD_range h0' (show bitN M2 ≤ 2560000 by omega) e2
  have h0 := bareD_nz h0 e
  have h0' := bareD_nz h0' e2
  have sM' : bitN M' ≤ 2560000 := by omega
  have sM2' : bitN M2' ≤ 2560000 := by omega
  obtain ⟨b, hb⟩ : ∃ b, bitN M' = b := ⟨_, rfl⟩
  obtain ⟨b2, hb2⟩ : ∃ b, bitN M2' = b := ⟨_, rfl⟩
  have eb := Lib.hid hb; have eb2 := Lib.hid hb2
  obtain ⟨X, hX⟩ : ∃ X : Int, (b : Int) + E' = X := ⟨_, rfl⟩
  obtain ⟨Y, hY⟩ : ∃ Y : Int, (b2 : Int) + E2' = Y := ⟨_, rfl⟩
  have hwX : IntKind.i64.wrap ((b : Int) + E') = X := by rw [IntKind.wrap_i64]; omega
  have hwY : IntKind.i64.wrap ((b2 : Int) + E2') = Y := by rw [IntKind.wrap_i64]; omega
  have hwX2 : IntKind.i64.wrap X = X := by rw [IntKind.wrap_i64]; omega
  have hwY2 : IntKind.i64.wrap Y = Y := by rw [IntKind.wrap_i64]; omega
  have e := Lib.hid e; have e2 := Lib.hid e2
  go_enter Tryd.func58, Tryd.ntmps58
  go_upto_region 1 with fail
  have P0 : Blk _ w.heap.size #[.bool neg, .slice a n k, .int .i64 E] := blk_a1 (w := w) (T := 48) (o := .cells #[.bool neg2, .slice a2 m2 k2, .int .i64 E2] 48)
  have Q0 : Blk ((w.alloc (.cells #[.bool neg, .slice a n k, .int .i64 E] 48)).alloc (.cells #[.bool neg2, .slice a2 m2 k2, .int .i64 E2] 48)) _ _ := blk_a2
  have B0 : Below w.heap.size w ((w.alloc (.cells #[.bool neg, .slice a n k, .int .i64 E] 48)).alloc (.cells #[.bool neg2, .slice a2 m2 k2, .int .i64 E2] 48)) := below_2
  generalize (w.alloc (.cells #[.bool neg, .slice a n k, .int .i64 E] 48)).alloc (.cells #[.bool neg2, .slice a2 m2 k2, .int .i64 E2] 48) = w0 at *
  generalize hb0 : w.heap.size = b0 at *
  go_cut [4] (fun x wx => x = .int .i64 0 ∧ ∃ ad kd ag kg, Blk wx b0 #[.bool n', .slice ad (digs BB M').length kd, .int .i64 E'] ∧ Blk wx (b0 + 1) #[.bool n2', .slice ag (digs BB M2').length kg, .int .i64 E2'] ∧ RdN wx (.slice ad (digs BB M').length kd) (digs BB M') ∧ RdN wx (.slice ag (digs BB M2').length kg) (digs BB M2') ∧ Below b0 w wx)
  case first =>
    have hm : Num w0.drew _ M := (h.below (hb0 ▸ B0)).below (below_drewN (Below.refl _ _) 1)
    have hm2 : Num w0.drew _ M2 := (h'.below (hb0 ▸ B0)).below (below_drewN (Below.refl _ _) 1)
    have hT0 : Tab w0.drew := (hT.below (hb0 ▸ B0)).below (below_drewN (Below.refl _ _) 1)
    have PD : Blk w0.drew _ _ := P0.below (below_drewN (Below.refl _ _) 1)
    have QD : Blk w0.drew _ _ := Q0.below (below_drewN (Below.refl _ _) 1)
    have BD : Below b0 w w0.drew := below_drewN B0 1
    obtain ⟨cP0_0, cP1_0, cP2_0, fP0_0, fP1_0, fP2_0, sP_0⟩ := PD.open3
    obtain ⟨cQ0_0, cQ1_0, cQ2_0, fQ0_0, fQ1_0, fQ2_0, sQ_0⟩ := QD.open3
    go_region_with
    (first
      | (go_at_call 75; (with_reducible refine (bare_d hm hT0 h1 h2 e.out).mono ?_); rintro e w1 ⟨vd1, rfl, d1, hb1⟩; have B1 := hb1; have m1 := hm.below hb1; have m21 := hm2.below hb1; have T1 := hT0.below hb1; have P1 := PD.below hb1; have Q1 := QD.below hb1; clear hm hm2 hT0 PD QD; obtain ⟨cP0_1, cP1_1, cP2_1, fP0_1, fP1_1, fP2_1, sP_1⟩ := P1.open3; obtain ⟨cQ0_1, cQ1_1, cQ2_1, fQ0_1, fQ1_1, fQ2_1, sQ_1⟩ := Q1.open3; obtain ⟨ud1, rfl, d1⟩ := d1; obtain ⟨ad1, kd1, rfl, -⟩ := d1.view)
      | (go_at_call 75; (with_reducible refine (bare_d m21 T1 h3 h4 e2.out).mono ?_); rintro e w2 ⟨vg2, rfl, g2, hb2⟩; have B2 := B1.trans (hb2.mono B1.size); have m2 := m1.below hb2; have m22 := m21.below hb2; have T2 := T1.below hb2; have P2 := P1.below hb2; have Q2 := Q1.below hb2; have d2 := d1.below hb2; clear m1 m21 T1 P1 Q1 d1; clear cP0_1 cP1_1 cP2_1 fP0_1 fP1_1 fP2_1 sP_1; obtain ⟨cP0_2, cP1_2, cP2_2, fP0_2, fP1_2, fP2_2, sP_2⟩ := P2.open3; clear cQ0_1 cQ1_1 cQ2_1 fQ0_1 fQ1_1 fQ2_1 sQ_1; obtain ⟨cQ0_2, cQ1_2, cQ2_2, fQ0_2, fQ1_2, fQ2_2, sQ_2⟩ := Q2.open3; obtain ⟨ug2, rfl, g2⟩ := g2; obtain ⟨ag2, kg2, rfl, -⟩ := g2.view)
      | fail)
    all_goals
      go_wp2_with fail
      go_meet
      have BF : Below b0 w w2 := BD.trans (B2.mono (hb0 ▸ BD.size))
      have Q3 := Q2.other3 (b' := b0) (by omega) (.bool n') (.slice ad1 (digs BB M').length kd1) (.int .i64 E')
      exact ⟨rfl, ad1, kd1, ag2, kg2, (P2.set3 _ _ _).other3 (by omega) _ _ _, Q3.set3 _ _ _, (d2.set3 P2 dcells _ _ _).set3 Q3 dcells _ _ _, (g2.set3 P2 dcells _ _ _).set3 Q3 dcells _ _ _, below_set3b (below_set3b BF (Nat.le_refl _) _ _ _) (by omega) _ _ _⟩
  case rest =>
    obtain ⟨rfl, ad, kd, ag, kg, P1, Q1, D1, G1, B1⟩ := hcut
    go_upto_region 2 with fail
    go_cut [5, 6] (fun x y wx => x = .int .i64 X ∧ y = .int .i64 Y ∧ Blk wx b0 #[.bool n', .slice ad (digs BB M').length kd, .int .i64 E'] ∧ Blk wx (b0 + 1) #[.bool n2', .slice ag (digs BB M2').length kg, .int .i64 E2'] ∧ RdN wx (.slice ad (digs BB M').length kd) (digs BB M') ∧ RdN wx (.slice ag (digs BB M2').length kg) (digs BB M2') ∧ Below b0 w wx)
    case first =>
      have PD : Blk wc.drew _ _ := P1.below (below_drewN (Below.refl _ _) 1)
      have QD : Blk wc.drew _ _ := Q1.below (below_drewN (Below.refl _ _) 1)
      have DD' : RdN wc.drew _ _ := D1.below (below_drewN (Below.refl _ _) 1)
      have GD : RdN wc.drew _ _ := G1.below (below_drewN (Below.refl _ _) 1)
      have BD : Below b0 w wc.drew := below_drewN B1 1
      obtain ⟨cP0_0, cP1_0, cP2_0, fP0_0, fP1_0, fP2_0, sP_0⟩ := PD.open3
      obtain ⟨cQ0_0, cQ1_0, cQ2_0, fQ0_0, fQ1_0, fQ2_0, sQ_0⟩ := QD.open3
      go_region_held3 (fun w' => w'.cell? ⟨b0, 1, none⟩ = some (.slice ad (digs BB M').length kd) ∧ w'.cell? ⟨b0, 2, none⟩ = some (.int .i64 E') ∧ w'.cell? ⟨b0 + 1, 1, none⟩ = some (.slice ag (digs BB M2').length kg) ∧ w'.cell? ⟨b0 + 1, 2, none⟩ = some (.int .i64 E2')) (first | exact ⟨cP1_0, cP2_0, cQ1_0, cQ2_0⟩ | exact ⟨cP1_1, cP2_1, cQ1_1, cQ2_1⟩ | exact ⟨cP1_2, cP2_2, cQ1_2, cQ2_2⟩)
      (first
        | (go_at_call 33; (with_reducible refine (bits_n (DD'.num sM') eb.out).mono ?_); rintro e w1 ⟨rfl, hb1⟩; have B1 := hb1; have d1 := (DD').below hb1; have g1 := GD.below hb1; have P1 := PD.below hb1; have Q1 := QD.below hb1; clear GD PD QD; obtain ⟨cP0_1, cP1_1, cP2_1, fP0_1, fP1_1, fP2_1, sP_1⟩ := P1.open3; obtain ⟨cQ0_1, cQ1_1, cQ2_1, fQ0_1, fQ1_1, fQ2_1, sQ_1⟩ := Q1.open3)
        | (go_at_call 33; (with_reducible refine (bits_n (g1.num sM2') eb2.out).mono ?_); rintro e w2 ⟨rfl, hb2⟩; have B2 := B1.trans (hb2.mono B1.size); have d2 := d1.below hb2; have g2 := g1.below hb2; have P2 := P1.below hb2; have Q2 := Q1.below hb2; clear d1 g1 P1 Q1; clear cP0_1 cP1_1 cP2_1 fP0_1 fP1_1 fP2_1 sP_1; obtain ⟨cP0_2, cP1_2, cP2_2, fP0_2, fP1_2, fP2_2, sP_2⟩ := P2.open3; clear cQ0_1 cQ1_1 cQ2_1 fQ0_1 fQ1_1 fQ2_1 sQ_1; obtain ⟨cQ0_2, cQ1_2, cQ2_2, fQ0_2, fQ1_2, fQ2_2, sQ_2⟩ := Q2.open3)
        | fail)
      all_goals
        go_wp2_with fail
        go_meet
        exact ⟨rfl, rfl, P2, Q2, d2, g2, BD.trans (B2.mono (hb0 ▸ BD.size))⟩
    case rest =>
      obtain ⟨rfl, rfl, P1, Q1, D1, G1, B1⟩ := hcut
      have sC1 : bitN (M' * 2 ^ (b2 - b)) ≤ 2560000 := by rw [bitN_shift h0]; omega
      have sC2 : bitN (M2' * 2 ^ (b - b2)) ≤ 2560000 := by rw [bitN_shift h0']; omega
      obtain ⟨cP0_0, cP1_0, cP2_0, fP0_0, fP1_0, fP2_0, sP_0⟩ := P1.open3
      obtain ⟨cQ0_0, cQ1_0, cQ2_0, fQ0_0, fQ1_0, fQ2_0, sQ_0⟩ := Q1.open3
      by_cases hXY : X = Y
      · subst hXY
        have hcs : cmpM ⟨n', M', E'⟩ ⟨n2', M2', E2'⟩ = cmpN (M' * 2 ^ (b2 - b)) (M2' * 2 ^ (b - b2)) := by
          rw [cmpM_same (by simp only; rw [hb, hb2, hX, hY])]
          simp only [hb, hb2]
        rw [hcs] at hc
        obtain ⟨N, hN⟩ : ∃ N : Int, (b : Int) - (b2 : Int) = N := ⟨_, rfl⟩
        have hwN : IntKind.i64.wrap ((b : Int) - (b2 : Int)) = N := by rw [IntKind.wrap_i64]; omega
        have hwN2 : IntKind.i64.wrap N = N := by rw [IntKind.wrap_i64]; omega
        have ec := Lib.hid hc
        clear hcs hc hX hY
        go_upto_region 5 with fail
        go_cut [7] (fun x wx => x = .int .i64 N ∧ Blk wx b0 #[.bool n', .slice ad (digs BB M').length kd, .int .i64 E'] ∧ Blk wx (b0 + 1) #[.bool n2', .slice ag (digs BB M2').length kg, .int .i64 E2'] ∧ RdN wx (.slice ad (digs BB M').length kd) (digs BB M') ∧ RdN wx (.slice ag (digs BB M2').length kg) (digs BB M2') ∧ Below b0 w wx)
        case first =>
          have PD : Blk wc.drew _ _ := P1.below (below_drewN (Below.refl _ _) 1)
          have QD : Blk wc.drew _ _ := Q1.below (below_drewN (Below.refl _ _) 1)
          have DD' : RdN wc.drew _ _ := D1.below (below_drewN (Below.refl _ _) 1)
          have GD : RdN wc.drew _ _ := G1.below (below_drewN (Below.refl _ _) 1)
          have BD : Below b0 w wc.drew := below_drewN B1 1
          obtain ⟨cP0_0, cP1_0, cP2_0, fP0_0, fP1_0, fP2_0, sP_0⟩ := PD.open3
          obtain ⟨cQ0_0, cQ1_0, cQ2_0, fQ0_0, fQ1_0, fQ2_0, sQ_0⟩ := QD.open3
          go_region_held3 (fun w' => w'.cell? ⟨b0, 1, none⟩ = some (.slice ad (digs BB M').length kd) ∧ w'.cell? ⟨b0 + 1, 1, none⟩ = some (.slice ag (digs BB M2').length kg)) (first | exact ⟨cP1_0, cQ1_0⟩ | exact ⟨cP1_1, cQ1_1⟩ | exact ⟨cP1_2, cQ1_2⟩)
          (first
            | (go_at_call 33; (with_reducible refine (bits_n (DD'.num sM') eb.out).mono ?_); rintro e w1 ⟨rfl, hb1⟩; have B1 := hb1; have d1 := (DD').below hb1; have g1 := GD.below hb1; have P1 := PD.below hb1; have Q1 := QD.below hb1; clear GD PD QD; obtain ⟨cP0_1, cP1_1, cP2_1, fP0_1, fP1_1, fP2_1, sP_1⟩ := P1.open3; obtain ⟨cQ0_1, cQ1_1, cQ2_1, fQ0_1, fQ1_1, fQ2_1, sQ_1⟩ := Q1.open3)
            | (go_at_call 33; (with_reducible refine (bits_n (g1.num sM2') eb2.out).mono ?_); rintro e w2 ⟨rfl, hb2⟩; have B2 := B1.trans (hb2.mono B1.size); have d2 := d1.below hb2; have g2 := g1.below hb2; have P2 := P1.below hb2; have Q2 := Q1.below hb2; clear d1 g1 P1 Q1; clear cP0_1 cP1_1 cP2_1 fP0_1 fP1_1 fP2_1 sP_1; obtain ⟨cP0_2, cP1_2, cP2_2, fP0_2, fP1_2, fP2_2, sP_2⟩ := P2.open3; clear cQ0_1 cQ1_1 cQ2_1 fQ0_1 fQ1_1 fQ2_1 sQ_1; obtain ⟨cQ0_2, cQ1_2, cQ2_2, fQ0_2, fQ1_2, fQ2_2, sQ_2⟩ := Q2.open3)
            | fail)
          all_goals
            go_wp2_with fail
            go_meet
            exact ⟨rfl, P2, Q2, d2, g2, BD.trans (B2.mono (hb0 ▸ BD.size))⟩
        case rest =>
          obtain ⟨rfl, P1, Q1, D1, G1, B1⟩ := hcut
          have HW1 := Lib.hid (fun w v (h : RdN w v (digs BB M')) => widened_i (n := -N) h (show bitN M' + (-N).toNat ≤ 2000000 by omega) (by omega))
          have HW2 := Lib.hid (fun w v (h : RdN w v (digs BB M2')) => widened_i (n := N) h (show bitN M2' + N.toNat ≤ 2000000 by omega) (by omega))
          rw [show (-N).toNat = b2 - b by omega] at HW1
          rw [show N.toNat = b - b2 by omega] at HW2
          have hwn : IntKind.i64.wrap (-N) = -N := by rw [IntKind.wrap_i64]; omega
          go_upto_region 6 with fail
          have PD : Blk wc.drew _ _ := P1.below (below_drewN (Below.refl _ _) 1)
          have QD : Blk wc.drew _ _ := Q1.below (below_drewN (Below.refl _ _) 1)
          have DD' : RdN wc.drew _ _ := D1.below (below_drewN (Below.refl _ _) 1)
          have GD : RdN wc.drew _ _ := G1.below (below_drewN (Below.refl _ _) 1)
          have BD : Below b0 w wc.drew := below_drewN B1 1
          obtain ⟨cP0_0, cP1_0, cP2_0, fP0_0, fP1_0, fP2_0, sP_0⟩ := PD.open3
          obtain ⟨cQ0_0, cQ1_0, cQ2_0, fQ0_0, fQ1_0, fQ2_0, sQ_0⟩ := QD.open3
          go_region_held3 (fun w' => w'.cell? ⟨b0, 1, none⟩ = some (.slice ad (digs BB M').length kd) ∧ w'.cell? ⟨b0 + 1, 1, none⟩ = some (.slice ag (digs BB M2').length kg)) (first | exact ⟨cP1_0, cQ1_0⟩ | exact ⟨cP1_1, cQ1_1⟩ | exact ⟨cP1_2, cQ1_2⟩ | exact ⟨cP1_3, cQ1_3⟩)
          (first
            | (go_at_call 76; (with_reducible refine (HW1.out _ _ DD').mono ?_); rintro e w1 ⟨vx1, rfl, x1, hb1⟩; have B1 := hb1; have d1 := (DD').below hb1; have g1 := GD.below hb1; have P1 := PD.below hb1; have Q1 := QD.below hb1; clear GD PD QD; obtain ⟨cP0_1, cP1_1, cP2_1, fP0_1, fP1_1, fP2_1, sP_1⟩ := P1.open3; obtain ⟨cQ0_1, cQ1_1, cQ2_1, fQ0_1, fQ1_1, fQ2_1, sQ_1⟩ := Q1.open3)
            | (go_at_call 76; (with_reducible refine (HW2.out _ _ g1).mono ?_); rintro e w2 ⟨vy2, rfl, y2, hb2⟩; have B2 := B1.trans (hb2.mono B1.size); have d2 := d1.below hb2; have g2 := g1.below hb2; have P2 := P1.below hb2; have Q2 := Q1.below hb2; have x2 := x1.below hb2; clear d1 g1 P1 Q1 x1; clear cP0_1 cP1_1 cP2_1 fP0_1 fP1_1 fP2_1 sP_1; obtain ⟨cP0_2, cP1_2, cP2_2, fP0_2, fP1_2, fP2_2, sP_2⟩ := P2.open3; clear cQ0_1 cQ1_1 cQ2_1 fQ0_1 fQ1_1 fQ2_1 sQ_1; obtain ⟨cQ0_2, cQ1_2, cQ2_2, fQ0_2, fQ1_2, fQ2_2, sQ_2⟩ := Q2.open3)
            | (go_at_call 22; (with_reducible refine (cmp_n x2 y2 ec.out).mono ?_); rintro e w3 ⟨rfl, hb3⟩; have B3 := B2.trans (hb3.mono B2.size); have d3 := d2.below hb3; have g3 := g2.below hb3; have P3 := P2.below hb3; have Q3 := Q2.below hb3; have x3 := x2.below hb3; have y3 := y2.below hb3; clear d2 g2 P2 Q2 x2 y2; clear cP0_2 cP1_2 cP2_2 fP0_2 fP1_2 fP2_2 sP_2; obtain ⟨cP0_3, cP1_3, cP2_3, fP0_3, fP1_3, fP2_3, sP_3⟩ := P3.open3; clear cQ0_2 cQ1_2 cQ2_2 fQ0_2 fQ1_2 fQ2_2 sQ_2; obtain ⟨cQ0_3, cQ1_3, cQ2_3, fQ0_3, fQ1_3, fQ2_3, sQ_3⟩ := Q3.open3)
            | fail)
          all_goals
            go_wp2_with fail
            go_ret
            exact ⟨rfl, hb0 ▸ BD.trans (B3.mono (hb0 ▸ BD.size))⟩
      · have hct : cmpI X Y = c := by
          rw [← hc, cmpM_tops h0 h0' (by simp only; rw [hb, hb2, hX, hY]; exact hXY)]
          simp only [hb, hb2, hX, hY]
        have HC := Lib.hid (fun w => compare_I (w := w) X Y)
        rw [hct] at HC
        clear hc hct hX hY
        go_wp2_with (go_at_call 49; (with_reducible refine (HC.out _).mono ?_); rintro e w9 ⟨rfl, rfl⟩)
        go_ret
        exact ⟨rfl, hb0 ▸ B1⟩
end Go.Proofs.YtecgimdgmilcbaaDoor
