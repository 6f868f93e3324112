/- dyad.size and Cmp by their contracts. Conditions: the numbers are short; math/bits' table stands in its variable. -/
import Derived.Test.YtflkemcoomgoiaaDoorDyA
import Derived.Deep.RegionHeld3
import Derived.Deep.CutBlock
import Derived.Test.YtflkemcoomgoiaaDoorDyG
namespace Go.Proofs.YtflkemcoomgoiaaDoor
set_option maxRecDepth 100000
open Go.RowKit Go.ChangeShapes Go.WideShapes

theorem widened_i {w : World} {v : Value} {M : Nat} {n : Int} (h : RdN w v (digs BB M)) (hs : bitN M + n.toNat ≤ 2000000) (hn : n ≤ 2000000) :
    Calls Tryd.prog 77 #[v, .int .i64 n] w (fun e w' => ∃ v, e = .returned v ∧ Num w' v (M * 2 ^ n.toNat) ∧ Below w.heap.size w w') := by
  by_cases h0 : n ≤ 0
  · rw [show n.toNat = 0 by omega, Nat.pow_zero, Nat.mul_one]
    exact widened_zero (h.num (by omega)) h0
  · obtain ⟨m, rfl⟩ := Int.eq_ofNat_of_zero_le (show 0 ≤ n by omega)
    rw [Int.toNat_natCast] at hs ⊢
    exact widened_n h (by omega) hs
theorem compare_I {w : World} (x y : Int) : Calls Tryd.prog 35 #[.int .i64 x, .int .i64 y] w fun e w' => e = .returned (.int .i64 (cmpI x y)) ∧ w' = w := by
  have h := Tryd.cmp_Compare_int x y w
  unfold Lib.compareInt at h
  unfold cmpI
  exact h
theorem bareD_range {neg n' : Bool} {M M' : Nat} {E E' : Int} (h0 : M ≠ 0) (sM : bitN M ≤ 2560000) (e : bareD ⟨neg, M, E⟩ = ⟨n', M', E'⟩) : -2147483648 ≤ E' ∧ E' ≤ 2147483648 + 2560000 := by
  rw [bareD_pos h0] at e
  injection e with e1 e2 e3
  have h3 := cutE_range E
  have h4 := low2_lt h0
  simp only at e3
  omega
theorem bareD_nz {neg n' : Bool} {M M' : Nat} {E E' : Int} (h0 : M ≠ 0) (e : bareD ⟨neg, M, E⟩ = ⟨n', M', E'⟩) : M' ≠ 0 := by
  have := bareD_m_zero ⟨neg, M, E⟩
  rw [e] at this
  exact fun h => h0 (this.1 h)
theorem below_set3b {B : Nat} {w w' : World} (h : Below B w w') {b : Nat} (hb : B ≤ b) (x y z : Value) : Below B w (((w'.setCell ⟨b, 0, none⟩ x).setCell ⟨b, 1, none⟩ y).setCell ⟨b, 2, none⟩ z) :=
  ((h.setCell (p := ⟨b, 0, none⟩) hb x).setCell (p := ⟨b, 1, none⟩) hb y).setCell (p := ⟨b, 2, none⟩) hb z

set_option maxHeartbeats 1000000 in
theorem size_n {w : World} {v u : Value} {neg n' neg2 n2' : Bool} {M M' M2 M2' : Nat} {E E' E2 E2' c : Int} (h : Num w v M) (h' : Num w u M2) (hT : Tab w) (h1 : -9223372036854775808 ≤ E) (h2 : E ≤ 9223372036854775807) (h3 : -9223372036854775808 ≤ E2) (h4 : E2 ≤ 9223372036854775807)
    (e : bareD ⟨neg, M, E⟩ = ⟨n', M', E'⟩) (e2 : bareD ⟨neg2, M2, E2⟩ = ⟨n2', M2', E2'⟩) (h0 : M ≠ 0) (h0' : M2 ≠ 0) (sM : bitN M ≤ 400000) (sM2 : bitN M2 ≤ 400000) (hc : cmpM ⟨n', M', E'⟩ ⟨n2', M2', E2'⟩ = c) :
    Calls Tryd.prog 36 #[.agg #[.bool neg, v, .int .i64 E], .agg #[.bool neg2, u, .int .i64 E2]] w (fun e w' => e = .returned (.int .i64 c) ∧ Below w.heap.size w w') := by
  obtain ⟨a, n, k, rfl⟩ := h.slice
  obtain ⟨a2, m2, k2, rfl⟩ := h'.slice
  have sM' : bitN M' ≤ 400000 := by
    have := bareD_m_le ⟨neg, M, E⟩
    rw [e] at this
    exact Nat.le_trans (bitN_mono this) sM
  have sM2' : bitN M2' ≤ 400000 := by
    have := bareD_m_le ⟨neg2, M2, E2⟩
    rw [e2] at this
    exact Nat.le_trans (bitN_mono this) sM2
  have rE := bareD_range h0 (show bitN M ≤ 2560000 by omega) e
  have rE2 := bareD_range h0' (show bitN M2 ≤ 2560000 by omega) e2
  have h0 := bareD_nz h0 e
  have h0' := bareD_nz h0' e2
  have sM' : bitN M' ≤ 2560000 := by omega
  have sM2' : bitN M2' ≤ 2560000 := by omega
  obtain ⟨b, hb⟩ : ∃ b, bitN M' = b := ⟨_, rfl⟩
  obtain ⟨b2, hb2⟩ : ∃ b, bitN M2' = b := ⟨_, rfl⟩
  have eb := Lib.hid hb; have eb2 := Lib.hid hb2
  obtain ⟨X, hX⟩ : ∃ X : Int, (b : Int) + E' = X := ⟨_, rfl⟩
  obtain ⟨Y, hY⟩ : ∃ Y : Int, (b2 : Int) + E2' = Y := ⟨_, rfl⟩
  have hwX : IntKind.i64.wrap ((b : Int) + E') = X := by rw [IntKind.wrap_i64]; omega
  have hwY : IntKind.i64.wrap ((b2 : Int) + E2') = Y := by rw [IntKind.wrap_i64]; omega
  have hwX2 : IntKind.i64.wrap X = X := by rw [IntKind.wrap_i64]; omega
  have hwY2 : IntKind.i64.wrap Y = Y := by rw [IntKind.wrap_i64]; omega
  have e := Lib.hid e; have e2 := Lib.hid e2
  go_enter Tryd.func36, Tryd.ntmps36
  go_upto_region 1 with fail
  have P0 : Blk _ w.heap.size #[.bool neg, .slice a n k, .int .i64 E] := blk_a1 (w := w) (T := 36) (o := .cells #[.bool neg2, .slice a2 m2 k2, .int .i64 E2] 36)
  have Q0 : Blk ((w.alloc (.cells #[.bool neg, .slice a n k, .int .i64 E] 36)).alloc (.cells #[.bool neg2, .slice a2 m2 k2, .int .i64 E2] 36)) _ _ := blk_a2
  have B0 : Below w.heap.size w ((w.alloc (.cells #[.bool neg, .slice a n k, .int .i64 E] 36)).alloc (.cells #[.bool neg2, .slice a2 m2 k2, .int .i64 E2] 36)) := below_2
  generalize (w.alloc (.cells #[.bool neg, .slice a n k, .int .i64 E] 36)).alloc (.cells #[.bool neg2, .slice a2 m2 k2, .int .i64 E2] 36) = w0 at *
  generalize hb0 : w.heap.size = b0 at *
  go_cut [4] (fun x wx => x = .int .i64 0 ∧ ∃ ad kd ag kg, Blk wx b0 #[.bool n', .slice ad (digs BB M').length kd, .int .i64 E'] ∧ Blk wx (b0 + 1) #[.bool n2', .slice ag (digs BB M2').length kg, .int .i64 E2'] ∧ RdN wx (.slice ad (digs BB M').length kd) (digs BB M') ∧ RdN wx (.slice ag (digs BB M2').length kg) (digs BB M2') ∧ Below b0 w wx)
  case first =>
    have hm : Num w0.drew _ M := (h.below (hb0 ▸ B0)).below (below_drewN (Below.refl _ _) 1)
    have hm2 : Num w0.drew _ M2 := (h'.below (hb0 ▸ B0)).below (below_drewN (Below.refl _ _) 1)
    have hT0 : Tab w0.drew := (hT.below (hb0 ▸ B0)).below (below_drewN (Below.refl _ _) 1)
    have PD : Blk w0.drew _ _ := P0.below (below_drewN (Below.refl _ _) 1)
    have QD : Blk w0.drew _ _ := Q0.below (below_drewN (Below.refl _ _) 1)
    have BD : Below b0 w w0.drew := below_drewN B0 1
    obtain ⟨cP0_0, cP1_0, cP2_0, fP0_0, fP1_0, fP2_0, sP_0⟩ := PD.open3
    obtain ⟨cQ0_0, cQ1_0, cQ2_0, fQ0_0, fQ1_0, fQ2_0, sQ_0⟩ := QD.open3
    go_region_with
    (first
      | (go_at_call 34; (with_reducible refine (bare_d hm hT0 h1 h2 e.out).mono ?_); rintro e w1 ⟨vd1, rfl, d1, hb1⟩; have B1 := hb1; have m1 := hm.below hb1; have m21 := hm2.below hb1; have T1 := hT0.below hb1; have P1 := PD.below hb1; have Q1 := QD.below hb1; clear hm hm2 hT0 PD QD; obtain ⟨cP0_1, cP1_1, cP2_1, fP0_1, fP1_1, fP2_1, sP_1⟩ := P1.open3; obtain ⟨cQ0_1, cQ1_1, cQ2_1, fQ0_1, fQ1_1, fQ2_1, sQ_1⟩ := Q1.open3; obtain ⟨ud1, rfl, d1⟩ := d1; obtain ⟨ad1, kd1, rfl, -⟩ := d1.view)
      | (go_at_call 34; (with_reducible refine (bare_d m21 T1 h3 h4 e2.out).mono ?_); rintro e w2 ⟨vg2, rfl, g2, hb2⟩; have B2 := B1.trans (hb2.mono B1.size); have m2 := m1.below hb2; have m22 := m21.below hb2; have T2 := T1.below hb2; have P2 := P1.below hb2; have Q2 := Q1.below hb2; have d2 := d1.below hb2; clear m1 m21 T1 P1 Q1 d1; clear cP0_1 cP1_1 cP2_1 fP0_1 fP1_1 fP2_1 sP_1; obtain ⟨cP0_2, cP1_2, cP2_2, fP0_2, fP1_2, fP2_2, sP_2⟩ := P2.open3; clear cQ0_1 cQ1_1 cQ2_1 fQ0_1 fQ1_1 fQ2_1 sQ_1; obtain ⟨cQ0_2, cQ1_2, cQ2_2, fQ0_2, fQ1_2, fQ2_2, sQ_2⟩ := Q2.open3; obtain ⟨ug2, rfl, g2⟩ := g2; obtain ⟨ag2, kg2, rfl, -⟩ := g2.view)
      | fail)
    all_goals
      go_wp2_with fail
      go_meet
      have BF : Below b0 w w2 := BD.trans (B2.mono (hb0 ▸ BD.size))
      have Q3 := Q2.other3 (b' := b0) (by omega) (.bool n') (.slice ad1 (digs BB M').length kd1) (.int .i64 E')
      exact ⟨rfl, ad1, kd1, ag2, kg2, (P2.set3 _ _ _).other3 (by omega) _ _ _, Q3.set3 _ _ _, (d2.set3 P2 dcells _ _ _).set3 Q3 dcells _ _ _, (g2.set3 P2 dcells _ _ _).set3 Q3 dcells _ _ _, below_set3b (below_set3b BF (Nat.le_refl _) _ _ _) (by omega) _ _ _⟩
  case rest =>
    obtain ⟨rfl, ad, kd, ag, kg, P1, Q1, D1, G1, B1⟩ := hcut
    go_upto_region 2 with fail
    go_cut [5, 6] (fun x y wx => x = .int .i64 X ∧ y = .int .i64 Y ∧ Blk wx b0 #[.bool n', .slice ad (digs BB M').length kd, .int .i64 E'] ∧ Blk wx (b0 + 1) #[.bool n2', .slice ag (digs BB M2').length kg, .int .i64 E2'] ∧ RdN wx (.slice ad (digs BB M').length kd) (digs BB M') ∧ RdN wx (.slice ag (digs BB M2').length kg) (digs BB M2') ∧ Below b0 w wx)
    case first =>
      have PD : Blk wc.drew _ _ := P1.below (below_drewN (Below.refl _ _) 1)
      have QD : Blk wc.drew _ _ := Q1.below (below_drewN (Below.refl _ _) 1)
      have DD' : RdN wc.drew _ _ := D1.below (below_drewN (Below.refl _ _) 1)
      have GD : RdN wc.drew _ _ := G1.below (below_drewN (Below.refl _ _) 1)
      have BD : Below b0 w wc.drew := below_drewN B1 1
      obtain ⟨cP0_0, cP1_0, cP2_0, fP0_0, fP1_0, fP2_0, sP_0⟩ := PD.open3
      obtain ⟨cQ0_0, cQ1_0, cQ2_0, fQ0_0, fQ1_0, fQ2_0, sQ_0⟩ := QD.open3
      go_region_held3 (fun w' => w'.cell? ⟨b0, 1, none⟩ = some (.slice ad (digs BB M').length kd) ∧ w'.cell? ⟨b0, 2, none⟩ = some (.int .i64 E') ∧ w'.cell? ⟨b0 + 1, 1, none⟩ = some (.slice ag (digs BB M2').length kg) ∧ w'.cell? ⟨b0 + 1, 2, none⟩ = some (.int .i64 E2')) (first | exact ⟨cP1_0, cP2_0, cQ1_0, cQ2_0⟩ | exact ⟨cP1_1, cP2_1, cQ1_1, cQ2_1⟩ | exact ⟨cP1_2, cP2_2, cQ1_2, cQ2_2⟩)
      (first
        | (go_at_call 30; (with_reducible refine (bits_n (DD'.num sM') eb.out).mono ?_); rintro e w1 ⟨rfl, hb1⟩; have B1 := hb1; have d1 := (DD').below hb1; have g1 := GD.below hb1; have P1 := PD.below hb1; have Q1 := QD.below hb1; clear GD PD QD; obtain ⟨cP0_1, cP1_1, cP2_1, fP0_1, fP1_1, fP2_1, sP_1⟩ := P1.open3; obtain ⟨cQ0_1, cQ1_1, cQ2_1, fQ0_1, fQ1_1, fQ2_1, sQ_1⟩ := Q1.open3)
        | (go_at_call 30; (with_reducible refine (bits_n (g1.num sM2') eb2.out).mono ?_); rintro e w2 ⟨rfl, hb2⟩; have B2 := B1.trans (hb2.mono B1.size); have d2 := d1.below hb2; have g2 := g1.below hb2; have P2 := P1.below hb2; have Q2 := Q1.below hb2; clear d1 g1 P1 Q1; clear cP0_1 cP1_1 cP2_1 fP0_1 fP1_1 fP2_1 sP_1; obtain ⟨cP0_2, cP1_2, cP2_2, fP0_2, fP1_2, fP2_2, sP_2⟩ := P2.open3; clear cQ0_1 cQ1_1 cQ2_1 fQ0_1 fQ1_1 fQ2_1 sQ_1; obtain ⟨cQ0_2, cQ1_2, cQ2_2, fQ0_2, fQ1_2, fQ2_2, sQ_2⟩ := Q2.open3)
        | fail)
      all_goals
        go_wp2_with fail
        go_meet
        exact ⟨rfl, rfl, P2, Q2, d2, g2, BD.trans (B2.mono (hb0 ▸ BD.size))⟩
    case rest =>
      obtain ⟨rfl, rfl, P1, Q1, D1, G1, B1⟩ := hcut
      have sC1 : bitN (M' * 2 ^ (b2 - b)) ≤ 2560000 := by rw [bitN_shift h0]; omega
      have sC2 : bitN (M2' * 2 ^ (b - b2)) ≤ 2560000 := by rw [bitN_shift h0']; omega
      obtain ⟨cP0_0, cP1_0, cP2_0, fP0_0, fP1_0, fP2_0, sP_0⟩ := P1.open3
      obtain ⟨cQ0_0, cQ1_0, cQ2_0, fQ0_0, fQ1_0, fQ2_0, sQ_0⟩ := Q1.open3
      by_cases hXY : X = Y
      · subst hXY
        have hcs : cmpM ⟨n', M', E'⟩ ⟨n2', M2', E2'⟩ = cmpN (M' * 2 ^ (b2 - b)) (M2' * 2 ^ (b - b2)) := by
          rw [cmpM_same (by simp only; rw [hb, hb2, hX, hY])]
          simp only [hb, hb2]
        rw [hcs] at hc
        obtain ⟨N, hN⟩ : ∃ N : Int, (b : Int) - (b2 : Int) = N := ⟨_, rfl⟩
        have hwN : IntKind.i64.wrap ((b : Int) - (b2 : Int)) = N := by rw [IntKind.wrap_i64]; omega
        have hwN2 : IntKind.i64.wrap N = N := by rw [IntKind.wrap_i64]; omega
        have ec := Lib.hid hc
        clear hcs hc hX hY
        go_upto_region 5 with fail
        go_cut [7] (fun x wx => x = .int .i64 N ∧ Blk wx b0 #[.bool n', .slice ad (digs BB M').length kd, .int .i64 E'] ∧ Blk wx (b0 + 1) #[.bool n2', .slice ag (digs BB M2').length kg, .int .i64 E2'] ∧ RdN wx (.slice ad (digs BB M').length kd) (digs BB M') ∧ RdN wx (.slice ag (digs BB M2').length kg) (digs BB M2') ∧ Below b0 w wx)
        case first =>
          have PD : Blk wc.drew _ _ := P1.below (below_drewN (Below.refl _ _) 1)
          have QD : Blk wc.drew _ _ := Q1.below (below_drewN (Below.refl _ _) 1)
          have DD' : RdN wc.drew _ _ := D1.below (below_drewN (Below.refl _ _) 1)
          have GD : RdN wc.drew _ _ := G1.below (below_drewN (Below.refl _ _) 1)
          have BD : Below b0 w wc.drew := below_drewN B1 1
          obtain ⟨cP0_0, cP1_0, cP2_0, fP0_0, fP1_0, fP2_0, sP_0⟩ := PD.open3
          obtain ⟨cQ0_0, cQ1_0, cQ2_0, fQ0_0, fQ1_0, fQ2_0, sQ_0⟩ := QD.open3
          go_region_held3 (fun w' => w'.cell? ⟨b0, 1, none⟩ = some (.slice ad (digs BB M').length kd) ∧ w'.cell? ⟨b0 + 1, 1, none⟩ = some (.slice ag (digs BB M2').length kg)) (first | exact ⟨cP1_0, cQ1_0⟩ | exact ⟨cP1_1, cQ1_1⟩ | exact ⟨cP1_2, cQ1_2⟩)
          (first
            | (go_at_call 30; (with_reducible refine (bits_n (DD'.num sM') eb.out).mono ?_); rintro e w1 ⟨rfl, hb1⟩; have B1 := hb1; have d1 := (DD').below hb1; have g1 := GD.below hb1; have P1 := PD.below hb1; have Q1 := QD.below hb1; clear GD PD QD; obtain ⟨cP0_1, cP1_1, cP2_1, fP0_1, fP1_1, fP2_1, sP_1⟩ := P1.open3; obtain ⟨cQ0_1, cQ1_1, cQ2_1, fQ0_1, fQ1_1, fQ2_1, sQ_1⟩ := Q1.open3)
            | (go_at_call 30; (with_reducible refine (bits_n (g1.num sM2') eb2.out).mono ?_); rintro e w2 ⟨rfl, hb2⟩; have B2 := B1.trans (hb2.mono B1.size); have d2 := d1.below hb2; have g2 := g1.below hb2; have P2 := P1.below hb2; have Q2 := Q1.below hb2; clear d1 g1 P1 Q1; clear cP0_1 cP1_1 cP2_1 fP0_1 fP1_1 fP2_1 sP_1; obtain ⟨cP0_2, cP1_2, cP2_2, fP0_2, fP1_2, fP2_2, sP_2⟩ := P2.open3; clear cQ0_1 cQ1_1 cQ2_1 fQ0_1 fQ1_1 fQ2_1 sQ_1; obtain ⟨cQ0_2, cQ1_2, cQ2_2, fQ0_2, fQ1_2, fQ2_2, sQ_2⟩ := Q2.open3)
            | fail)
          all_goals
            go_wp2_with fail
            go_meet
            exact ⟨rfl, P2, Q2, d2, g2, BD.trans (B2.mono (hb0 ▸ BD.size))⟩
        case rest =>
          obtain ⟨rfl, P1, Q1, D1, G1, B1⟩ := hcut
          have HW1 := Lib.hid (fun w v (h : RdN w v (digs BB M')) => widened_i (n := -N) h (show bitN M' + (-N).toNat ≤ 2000000 by omega) (by omega))
          have HW2 := Lib.hid (fun w v (h : RdN w v (digs BB M2')) => widened_i (n := N) h (show bitN M2' + N.toNat ≤ 2000000 by omega) (by omega))
          rw [show (-N).toNat = b2 - b by omega] at HW1
          rw [show N.toNat = b - b2 by omega] at HW2
          have hwn : IntKind.i64.wrap (-N) = -N := by rw [IntKind.wrap_i64]; omega
          go_upto_region 6 with fail
          have PD : Blk wc.drew _ _ := P1.below (below_drewN (Below.refl _ _) 1)
          have QD : Blk wc.drew _ _ := Q1.below (below_drewN (Below.refl _ _) 1)
          have DD' : RdN wc.drew _ _ := D1.below (below_drewN (Below.refl _ _) 1)
          have GD : RdN wc.drew _ _ := G1.below (below_drewN (Below.refl _ _) 1)
          have BD : Below b0 w wc.drew := below_drewN B1 1
          obtain ⟨cP0_0, cP1_0, cP2_0, fP0_0, fP1_0, fP2_0, sP_0⟩ := PD.open3
          obtain ⟨cQ0_0, cQ1_0, cQ2_0, fQ0_0, fQ1_0, fQ2_0, sQ_0⟩ := QD.open3
          go_region_held3 (fun w' => w'.cell? ⟨b0, 1, none⟩ = some (.slice ad (digs BB M').length kd) ∧ w'.cell? ⟨b0 + 1, 1, none⟩ = some (.slice ag (digs BB M2').length kg)) (first | exact ⟨cP1_0, cQ1_0⟩ | exact ⟨cP1_1, cQ1_1⟩ | exact ⟨cP1_2, cQ1_2⟩ | exact ⟨cP1_3, cQ1_3⟩)
          (first
            | (go_at_call 77; (with_reducible refine (HW1.out _ _ DD').mono ?_); rintro e w1 ⟨vx1, rfl, x1, hb1⟩; have B1 := hb1; have d1 := (DD').below hb1; have g1 := GD.below hb1; have P1 := PD.below hb1; have Q1 := QD.below hb1; clear GD PD QD; obtain ⟨cP0_1, cP1_1, cP2_1, fP0_1, fP1_1, fP2_1, sP_1⟩ := P1.open3; obtain ⟨cQ0_1, cQ1_1, cQ2_1, fQ0_1, fQ1_1, fQ2_1, sQ_1⟩ := Q1.open3)
            | (go_at_call 77; (with_reducible refine (HW2.out _ _ g1).mono ?_); rintro e w2 ⟨vy2, rfl, y2, hb2⟩; have B2 := B1.trans (hb2.mono B1.size); have d2 := d1.below hb2; have g2 := g1.below hb2; have P2 := P1.below hb2; have Q2 := Q1.below hb2; have x2 := x1.below hb2; clear d1 g1 P1 Q1 x1; clear cP0_1 cP1_1 cP2_1 fP0_1 fP1_1 fP2_1 sP_1; obtain ⟨cP0_2, cP1_2, cP2_2, fP0_2, fP1_2, fP2_2, sP_2⟩ := P2.open3; clear cQ0_1 cQ1_1 cQ2_1 fQ0_1 fQ1_1 fQ2_1 sQ_1; obtain ⟨cQ0_2, cQ1_2, cQ2_2, fQ0_2, fQ1_2, fQ2_2, sQ_2⟩ := Q2.open3)
            | (go_at_call 67; (with_reducible refine (cmp_n x2 y2 ec.out).mono ?_); rintro e w3 ⟨rfl, hb3⟩; have B3 := B2.trans (hb3.mono B2.size); have d3 := d2.below hb3; have g3 := g2.below hb3; have P3 := P2.below hb3; have Q3 := Q2.below hb3; have x3 := x2.below hb3; have y3 := y2.below hb3; clear d2 g2 P2 Q2 x2 y2; clear cP0_2 cP1_2 cP2_2 fP0_2 fP1_2 fP2_2 sP_2; obtain ⟨cP0_3, cP1_3, cP2_3, fP0_3, fP1_3, fP2_3, sP_3⟩ := P3.open3; clear cQ0_2 cQ1_2 cQ2_2 fQ0_2 fQ1_2 fQ2_2 sQ_2; obtain ⟨cQ0_3, cQ1_3, cQ2_3, fQ0_3, fQ1_3, fQ2_3, sQ_3⟩ := Q3.open3)
            | fail)
          all_goals
            go_wp2_with fail
            go_ret
            exact ⟨rfl, hb0 ▸ BD.trans (B3.mono (hb0 ▸ BD.size))⟩
      · have hct : cmpI X Y = c := by
          rw [← hc, cmpM_tops h0 h0' (by simp only; rw [hb, hb2, hX, hY]; exact hXY)]
          simp only [hb, hb2, hX, hY]
        have HC := Lib.hid (fun w => compare_I (w := w) X Y)
        rw [hct] at HC
        clear hc hct hX hY
        go_wp2_with (go_at_call 35; (with_reducible refine (HC.out _).mono ?_); rintro e w9 ⟨rfl, rfl⟩)
        go_ret
        exact ⟨rfl, hb0 ▸ B1⟩
end Go.Proofs.YtflkemcoomgoiaaDoor

/- dyad.Cmp, Of, Make by their contracts. Conditions: the numbers are short; math/bits' table stands in its variable. -/
namespace Go.Proofs.YtflkemcoomgoiaaDoor
set_option maxRecDepth 100000
open Go.RowKit Go.ChangeShapes Go.WideShapes

theorem signD_bare {neg n' : Bool} {M M' : Nat} {E E' : Int} (e : bareD ⟨neg, M, E⟩ = ⟨n', M', E'⟩) : signD ⟨neg, M, E⟩ = signD ⟨n', M', E'⟩ := by
  rw [← e]
  by_cases h0 : M = 0
  · rw [bareD_zero h0]; unfold signD; simp [h0]
  · have h1 : (bareD ⟨neg, M, E⟩).m ≠ 0 := fun h => h0 ((bareD_m_zero _).1 h)
    have h2 : (bareD ⟨neg, M, E⟩).neg = neg := by rw [bareD_pos h0]
    unfold signD
    rw [if_neg h0, if_neg h1, h2]

theorem cmpN_range (a b : Nat) : -1 ≤ cmpN a b ∧ cmpN a b ≤ 1 := by
  unfold cmpN
  split
  · exact ⟨Int.le_refl _, by omega⟩
  · split <;> omega

set_option maxHeartbeats 1000000 in
theorem Cmp_n {w : World} {v u : Value} {neg n' neg2 n2' : Bool} {M M' M2 M2' : Nat} {E E' E2 E2' c : Int} (h : Num w v M) (h' : Num w u M2) (hT : Tab w) (h1 : -9223372036854775808 ≤ E) (h2 : E ≤ 9223372036854775807) (h3 : -9223372036854775808 ≤ E2) (h4 : E2 ≤ 9223372036854775807)
    (e : bareD ⟨neg, M, E⟩ = ⟨n', M', E'⟩) (e2 : bareD ⟨neg2, M2, E2⟩ = ⟨n2', M2', E2'⟩) (sM : bitN M ≤ 400000) (sM2 : bitN M2 ≤ 400000) (hc : cmpD ⟨n', M', E'⟩ ⟨n2', M2', E2'⟩ = c) :
    Calls Tryd.prog 17 #[.agg #[.bool neg, v, .int .i64 E], .agg #[.bool neg2, u, .int .i64 E2]] w (fun e w' => e = .returned (.int .i64 c) ∧ Below w.heap.size w w') := by
  obtain ⟨s, hs⟩ : ∃ s, signD ⟨neg, M, E⟩ = s := ⟨_, rfl⟩
  obtain ⟨s2, hs2⟩ : ∃ s, signD ⟨neg2, M2, E2⟩ = s := ⟨_, rfl⟩
  have g1 := signD_bare e; have g2 := signD_bare e2
  rw [hs] at g1; rw [hs2] at g2
  have es := Lib.hid hs; have es2 := Lib.hid hs2
  unfold cmpD at hc
  rw [← g1, ← g2] at hc
  clear g1 g2
  have HC := Lib.hid (fun w => compare_I (w := w) s s2)
  have rs : -1 ≤ s ∧ s ≤ 1 := by rw [← hs]; unfold signD; split; · omega
                                 · split <;> omega
  have z1 : M = 0 → s = 0 := fun h => by rw [← hs]; unfold signD; rw [if_pos h]
  have z2 : M2 = 0 → s2 = 0 := fun h => by rw [← hs2]; unfold signD; rw [if_pos h]
  obtain ⟨av, nv, kv, rfl⟩ := h.slice
  obtain ⟨au, nu, ku, rfl⟩ := h'.slice
  have H := Lib.hid h; have H' := Lib.hid h'; have HT := Lib.hid hT
  have rs2 : -1 ≤ s2 ∧ s2 ≤ 1 := by rw [← hs2]; unfold signD; split; · omega
                                    · split <;> omega
  clear hs hs2
  go_enter Tryd.func17, Tryd.ntmps17
  go_upto_region 1 with fail
  have P0 : Blk ((w.alloc (.cells #[.bool neg, .slice av nv kv, .int .i64 E] 36)).alloc (.cells #[.bool neg2, .slice au nu ku, .int .i64 E2] 36)) w.heap.size #[.bool neg, .slice av nv kv, .int .i64 E] := blk_a1
  have Q0 : Blk ((w.alloc (.cells #[.bool neg, .slice av nv kv, .int .i64 E] 36)).alloc (.cells #[.bool neg2, .slice au nu ku, .int .i64 E2] 36)) (w.heap.size + 1) #[.bool neg2, .slice au nu ku, .int .i64 E2] := blk_a2
  have B0 : Below w.heap.size w ((w.alloc (.cells #[.bool neg, .slice av nv kv, .int .i64 E] 36)).alloc (.cells #[.bool neg2, .slice au nu ku, .int .i64 E2] 36)) := below_2
  generalize (w.alloc (.cells #[.bool neg, .slice av nv kv, .int .i64 E] 36)).alloc (.cells #[.bool neg2, .slice au nu ku, .int .i64 E2] 36) = w0 at *
  generalize hb0 : w.heap.size = b0 at *
  go_cut [5, 6] (fun x y wx => x = .int .i64 s ∧ y = .int .i64 s2 ∧ Blk wx b0 #[.bool neg, .slice av nv kv, .int .i64 E] ∧ Blk wx (b0 + 1) #[.bool neg2, .slice au nu ku, .int .i64 E2] ∧ Below b0 w wx)
  case first =>
    have hm : Num w0.drew _ M := (h.below (hb0 ▸ B0)).below (below_drewN (Below.refl _ _) 1)
    have hg : Num w0.drew _ M2 := (h'.below (hb0 ▸ B0)).below (below_drewN (Below.refl _ _) 1)
    have PD : Blk w0.drew _ _ := P0.below (below_drewN (Below.refl _ _) 1)
    have QD : Blk w0.drew _ _ := Q0.below (below_drewN (Below.refl _ _) 1)
    have BD : Below b0 w w0.drew := below_drewN B0 1
    clear h h' P0 Q0 B0
    obtain ⟨cP0_0, cP1_0, cP2_0, fP0_0, fP1_0, fP2_0, sP_0⟩ := PD.open3
    obtain ⟨cQ0_0, cQ1_0, cQ2_0, fQ0_0, fQ1_0, fQ2_0, sQ_0⟩ := QD.open3
    go_region_held3 (fun w' => w'.cell? ⟨b0, 0, none⟩ = some (.bool neg) ∧ w'.cell? ⟨b0, 1, none⟩ = some (.slice av nv kv) ∧ w'.cell? ⟨b0, 2, none⟩ = some (.int .i64 E) ∧ w'.cell? ⟨b0 + 1, 0, none⟩ = some (.bool neg2) ∧ w'.cell? ⟨b0 + 1, 1, none⟩ = some (.slice au nu ku) ∧ w'.cell? ⟨b0 + 1, 2, none⟩ = some (.int .i64 E2)) (first | exact ⟨cP0_0, cP1_0, cP2_0, cQ0_0, cQ1_0, cQ2_0⟩ | exact ⟨cP0_1, cP1_1, cP2_1, cQ0_1, cQ1_1, cQ2_1⟩ | exact ⟨cP0_2, cP1_2, cP2_2, cQ0_2, cQ1_2, cQ2_2⟩)
    (first
      | (go_at_call 14; (with_reducible refine (Sign_n hm es.out).mono ?_); rintro e w1 ⟨rfl, hb1⟩; have B1 := hb1; have m1 := hm.below hb1; have g1 := hg.below hb1; have P1 := PD.below hb1; have Q1 := QD.below hb1; clear hm hg PD QD; obtain ⟨cP0_1, cP1_1, cP2_1, fP0_1, fP1_1, fP2_1, sP_1⟩ := P1.open3; obtain ⟨cQ0_1, cQ1_1, cQ2_1, fQ0_1, fQ1_1, fQ2_1, sQ_1⟩ := Q1.open3)
      | (go_at_call 14; (with_reducible refine (Sign_n g1 es2.out).mono ?_); rintro e w2 ⟨rfl, hb2⟩; have B2 := B1.trans (hb2.mono B1.size); have m2 := m1.below hb2; have g2 := g1.below hb2; have P2 := P1.below hb2; have Q2 := Q1.below hb2; clear m1 g1 P1 Q1; clear cP0_1 cP1_1 cP2_1 fP0_1 fP1_1 fP2_1 sP_1; obtain ⟨cP0_2, cP1_2, cP2_2, fP0_2, fP1_2, fP2_2, sP_2⟩ := P2.open3; clear cQ0_1 cQ1_1 cQ2_1 fQ0_1 fQ1_1 fQ2_1 sQ_1; obtain ⟨cQ0_2, cQ1_2, cQ2_2, fQ0_2, fQ1_2, fQ2_2, sQ_2⟩ := Q2.open3)
      | fail)
    all_goals
      go_wp2_with fail
      go_meet
      exact ⟨rfl, rfl, P2, Q2, BD.trans (B2.mono (hb0 ▸ BD.size))⟩
  case rest =>
    obtain ⟨rfl, rfl, P1, Q1, B1⟩ := hcut
    clear P0 Q0 B0 h h'
    by_cases hx : s ≠ s2 ∨ s = 0
    · rw [if_pos hx] at hc
      rw [hc] at HC
      clear hc z1 z2
      by_cases hx1 : s = s2
      · obtain rfl : s = 0 := by rcases hx with h | h; · exact absurd hx1 h
                                 · exact h
        subst hx1
        go_wp2_with (go_at_call 35; (with_reducible refine (HC.out _).mono ?_); rintro e w9 ⟨rfl, rfl⟩)
        all_goals
          go_ret
          exact ⟨rfl, hb0 ▸ B1⟩
      · have hx2 : (s == s2) = false := beq_false_of_ne hx1
        clear hx
        go_wp2_with (go_at_call 35; (with_reducible refine (HC.out _).mono ?_); rintro e w9 ⟨rfl, rfl⟩)
        all_goals
          go_ret
          exact ⟨rfl, hb0 ▸ B1⟩
    · rw [if_neg hx] at hc
      have hss : s = s2 := by
        rcases Int.lt_trichotomy s s2 with h | h | h
        · exact absurd (.inl (by omega)) hx
        · exact h
        · exact absurd (.inl (by omega)) hx
      have hs0 : s ≠ 0 := fun h => hx (.inr h)
      have n1 : M ≠ 0 := fun h => hs0 (z1 h)
      have n2 : M2 ≠ 0 := fun h => hs0 (hss ▸ z2 h)
      obtain ⟨cm, hcm⟩ : ∃ cm, cmpM ⟨n', M', E'⟩ ⟨n2', M2', E2'⟩ = cm := ⟨_, rfl⟩
      have rc : -1 ≤ cm ∧ cm ≤ 1 := by rw [← hcm]; exact cmpN_range _ _
      rw [hcm] at hc
      have ecm := Lib.hid hcm
      have ee := Lib.hid e; have ee2 := Lib.hid e2
      have hsb : (s == 0) = false := beq_false_of_ne hs0
      have hw : IntKind.i64.wrap (s * cm) = c := by
        rw [IntKind.wrap_i64, ← hc]
        have : s = -1 ∨ s = 1 := by omega
        rcases this with rfl | rfl <;> omega
      clear hc z1 z2 hcm hx e e2
      subst hss
      have hm : Num wc _ M := H.out.below (hb0 ▸ B1)
      have hg : Num wc _ M2 := H'.out.below (hb0 ▸ B1)
      have hT0 : Tab wc := HT.out.below (hb0 ▸ B1)
      have BC := B1
      obtain ⟨cP0_0, cP1_0, cP2_0, fP0_0, fP1_0, fP2_0, sP_0⟩ := P1.open3
      obtain ⟨cQ0_0, cQ1_0, cQ2_0, fQ0_0, fQ1_0, fQ2_0, sQ_0⟩ := Q1.open3
      go_wp2_with
      (first
        | (go_at_call 36; (with_reducible refine (size_n hm hg hT0 h1 h2 h3 h4 ee.out ee2.out n1 n2 sM sM2 ecm.out).mono ?_); rintro e w1 ⟨rfl, hb1⟩; have B1 := hb1; have m1 := hm.below hb1; have g1 := hg.below hb1; have T1 := hT0.below hb1; clear hm hg hT0)
        | fail)
      all_goals
        go_ret
        exact ⟨rfl, hb0 ▸ BC.trans (hb1.mono (hb0 ▸ BC.size))⟩

/-- dyad.Make: as dyad.Bare. -/
theorem Make_ok {w : World} {v : Value} {neg n' : Bool} {M M' : Nat} {E E' : Int} (h : Num w v M) (hT : Tab w) (h1 : -9223372036854775808 ≤ E) (h2 : E ≤ 9223372036854775807) (e : bareD ⟨neg, M, E⟩ = ⟨n', M', E'⟩) (hf : fitsE E' = true) :
    Calls Tryd.prog 40 #[.bool neg, v, .int .i64 E] w (fun e w' => ∃ v, e = .returned (.tuple #[.agg #[.bool n', v, .int .i64 E'], .int .i64 0]) ∧ RdN w' v (digs BB M') ∧ Below w.heap.size w w') := by
  obtain ⟨a, n, k, rfl⟩ := h.slice
  have e := Lib.hid e
  go_enter Tryd.func40, Tryd.ntmps40
  go_wp2_with
  (first
    | (go_at_call 51; (with_reducible refine (Bare_ok (h.below (below_alloc _ _)) (hT.below (below_alloc _ _)) h1 h2 e.out hf).mono ?_); rintro e w1 ⟨vd1, rfl, d1, hb1⟩; have B1 := (below_alloc _ _).trans (hb1.mono (below_alloc _ _).size); have m1 := ((h.below (below_alloc _ _))).below hb1; have T1 := ((hT.below (below_alloc _ _))).below hb1; have R1 := ((blk_new)).below hb1; obtain ⟨cR0_1, cR1_1, cR2_1, fR0_1, fR1_1, fR2_1, sR_1⟩ := R1.open3; obtain ⟨ad1, kd1, rfl, -⟩ := d1.view; try simp only [List.length_nil] at d1)
    | fail)
  obtain ⟨q0, q1, q2, -⟩ := (R1.set3 (.bool n') (.slice ad1 (digs BB M').length kd1) (.int .i64 E')).open3
  refine bodyPost_ret (v := .tuple #[.agg #[.bool n', .slice ad1 (digs BB M').length kd1, .int .i64 E'], .int .i64 0]) ?_ rfl ?_
  · simp [results, Tryd.results40, go_sem, q0, q1, q2]
  · exact ⟨_, rfl, d1.set3 R1 dcells _ _ _, below_set3 B1 (Nat.le_refl _) _ _ _⟩
theorem Make_long {w : World} {v : Value} {neg n' : Bool} {M M' : Nat} {E E' : Int} (h : Num w v M) (hT : Tab w) (h1 : -9223372036854775808 ≤ E) (h2 : E ≤ 9223372036854775807) (e : bareD ⟨neg, M, E⟩ = ⟨n', M', E'⟩) (hf : fitsE E' = false) :
    Calls Tryd.prog 40 #[.bool neg, v, .int .i64 E] w (fun e w' => e = .returned (.tuple #[.agg #[.bool false, .slice none 0 0, .int .i64 0], .int .i64 2]) ∧ Below w.heap.size w w') := by
  obtain ⟨a, n, k, rfl⟩ := h.slice
  have e := Lib.hid e
  go_enter Tryd.func40, Tryd.ntmps40
  go_wp2_with
  (first
    | (go_at_call 51; (with_reducible refine (Bare_long (h.below (below_alloc _ _)) (hT.below (below_alloc _ _)) h1 h2 e.out hf).mono ?_); rintro e w1 ⟨rfl, hb1⟩; have B1 := (below_alloc _ _).trans (hb1.mono (below_alloc _ _).size); have m1 := ((h.below (below_alloc _ _))).below hb1; have T1 := ((hT.below (below_alloc _ _))).below hb1; have R1 := ((blk_new)).below hb1; obtain ⟨cR0_1, cR1_1, cR2_1, fR0_1, fR1_1, fR2_1, sR_1⟩ := R1.open3)
    | fail)
  obtain ⟨q0, q1, q2, -⟩ := (R1.set3 (.bool false) (.slice none 0 0) (.int .i64 0)).open3
  refine bodyPost_ret (v := .tuple #[.agg #[.bool false, .slice none 0 0, .int .i64 0], .int .i64 2]) ?_ rfl ?_
  · simp [results, Tryd.results40, go_sem, q0, q1, q2]
  · exact ⟨rfl, below_set3 B1 (Nat.le_refl _) _ _ _⟩

theorem rd_lit2 {w : World} {o : Obj} {n : Nat} {T : TypeId} {fz : Nat × Nat} : RdN ((w.alloc o).alloc (.cells #[.int .u64 (n : Int)] T fz)) (.slice (some ⟨w.heap.size + 1, 0, none⟩) 1 1) [n] := rd_one (heap_new2 _ _ _) trivial
/-- dyad.Of: a whole number that isn't below 0. -/
theorem Of_n {w : World} {n M' : Nat} {n' : Bool} {E' : Int} (hn : n < 9223372036854775808) (hT : Tab w) (e : bareD ⟨false, n, 0⟩ = ⟨n', M', E'⟩) :
    Calls Tryd.prog 16 #[.int .i64 n] w (fun e w' => ∃ v, e = .returned v ∧ Db w' v ⟨n', M', E'⟩ ∧ Below w.heap.size w w') := by
  have e := Lib.hid e
  have hd : decide ((n : Int) < 0) = false := decide_eq_false (by omega)
  have hw : IntKind.u64.wrap (n : Int) = (n : Int) := by rw [IntKind.wrap_u64]; omega
  have hB : n < BB := by unfold BB; omega
  have h0 : (-9223372036854775808 : Int) ≤ 0 := by decide
  have h1 : (0 : Int) ≤ 9223372036854775807 := by decide
  have hX := Lib.hid (fun w v (h : RdN w v [n]) (hT : Tab w) => bare_d (neg := false) (h.num1 hB) hT h0 h1 e.out)
  go_enter Tryd.func16, Tryd.ntmps16
  go_wp2_with
  (first
    | (go_at_call 34; (with_reducible refine (hX.out _ _ (rd_lit2) (hT.below below_2)).mono ?_); rintro e w1 ⟨vd1, rfl, d1, hb1⟩; have B1 := below_2.trans (hb1.mono below_2.size); have m1 := ((rd_lit2)).below hb1; have T1 := ((hT.below below_2)).below hb1; have R1 := ((blk_a1)).below hb1; obtain ⟨cR0_1, cR1_1, cR2_1, fR0_1, fR1_1, fR2_1, sR_1⟩ := R1.open3; obtain ⟨ud1, rfl, d1⟩ := d1; obtain ⟨ad1, kd1, rfl, -⟩ := d1.view)
    | fail)
  obtain ⟨q0, q1, q2, -⟩ := (R1.set3 (.bool n') (.slice ad1 (digs BB M').length kd1) (.int .i64 E')).open3
  refine bodyPost_ret (v := .agg #[.bool n', .slice ad1 (digs BB M').length kd1, .int .i64 E']) ?_ rfl ?_
  · simp [results, Tryd.results16, go_sem, q0, q1, q2]
  · exact ⟨_, rfl, ⟨_, rfl, d1.set3 R1 dcells _ _ _⟩, below_set3 B1 (Nat.le_refl _) _ _ _⟩
end Go.Proofs.YtflkemcoomgoiaaDoor

/- Blocks of three cells under whatever is laid and stored: for regions that draw and make their own structs (token CLOSE of pre.py). Conditions: none. -/
namespace Go.Proofs.YtflkemcoomgoiaaDoor
set_option maxRecDepth 100000
open Go.RowKit Go.ChangeShapes Go.WideShapes

theorem cells3 {w : World} {b : Nat} {x y z : Value} (h : Blk w b #[x, y, z]) : w.cell? ⟨b, 0, none⟩ = some x ∧ w.cell? ⟨b, 1, none⟩ = some y ∧ w.cell? ⟨b, 2, none⟩ = some z := ⟨h.open3.1, h.open3.2.1, h.open3.2.2.1⟩
theorem size_alloc {w : World} {o : Obj} : (w.alloc o).heap.size = w.heap.size + 1 := by simp
theorem Blk.next {w : World} {b : Nat} {c : Array Value} {o : Obj} (h : Blk w b c) : Blk (w.alloc o) b c := h.below (below_alloc _ _)
theorem Blk.set3z {w : World} {b : Nat} (h : Blk w b #[.bool false, .slice none 0 0, .int .i64 0]) (x' y' z' : Value) : Blk (((w.setCell ⟨b, 0, none⟩ x').setCell ⟨b, 1, none⟩ y').setCell ⟨b, 2, none⟩ z') b #[x', y', z'] := h.set3 _ _ _
theorem bel_trans {D W u : World} (h : Below D.heap.size D W) (hb : Below W.heap.size W u) : Below D.heap.size D u := h.trans (hb.mono h.size)
theorem size_drew {w : World} : w.drew.heap.size = w.heap.size := rfl
theorem Blk.dr {w : World} {b : Nat} {c : Array Value} (h : Blk w b c) : Blk w.drew b c := h.below (below_drewN (Below.refl _ _) 1)
theorem bel_dr {D W : World} (h : Below D.heap.size D W) : Below D.heap.size D W.drew := below_drewN h 1
theorem Blk.otherOf {w : World} {b b' : Nat} {c c' : Array Value} (h : Blk w b c) (_ : Blk w b' c') (hne : b ≠ b') (x y z : Value) : Blk (((w.setCell ⟨b', 0, none⟩ x).setCell ⟨b', 1, none⟩ y).setCell ⟨b', 2, none⟩ z) b c := h.other3 hne x y z
theorem bel_next {D W : World} {o : Obj} (h : Below D.heap.size D W) : Below D.heap.size D (W.alloc o) := h.alloc h.size o
theorem bel_set3 {D W : World} (h : Below D.heap.size D W) {b : Nat} (hb : D.heap.size ≤ b) (x y z : Value) : Below D.heap.size D (((W.setCell ⟨b, 0, none⟩ x).setCell ⟨b, 1, none⟩ y).setCell ⟨b, 2, none⟩ z) := below_set3b h hb x y z
theorem RdN.set3z {w : World} {v : Value} {l : List Nat} {b : Nat} (h : RdN w v l) (hB : Blk w b #[.bool false, .slice none 0 0, .int .i64 0]) (x y z : Value) :
    RdN (((w.setCell ⟨b, 0, none⟩ x).setCell ⟨b, 1, none⟩ y).setCell ⟨b, 2, none⟩ z) v l := h.set3 hB dcells _ _ _
end Go.Proofs.YtflkemcoomgoiaaDoor

/- Sums of dyads, plainly; blocks of three under three allocs. Conditions: none. -/
namespace Go.Proofs.YtflkemcoomgoiaaDoor
set_option maxRecDepth 100000
open Go.RowKit Go.ChangeShapes Go.WideShapes
theorem blk3a {w : World} {c : Array Value} {T : TypeId} {o1 o2 : Obj} : Blk (((w.alloc (.cells c T (0, 0))).alloc o1).alloc o2) w.heap.size c := blk_a1.below (below_alloc _ _)
theorem blk3b {w : World} {c : Array Value} {T : TypeId} {o1 o2 : Obj} : Blk (((w.alloc o1).alloc (.cells c T (0, 0))).alloc o2) (w.heap.size + 1) c := blk_a2.below (below_alloc _ _)
theorem blk3c {w : World} {c : Array Value} {T : TypeId} {o1 o2 : Obj} : Blk (((w.alloc o1).alloc o2).alloc (.cells c T (0, 0))) (w.heap.size + 1 + 1) c := by
  have := blk_a2 (w := w.alloc o1) (o := o2) (c := c) (T := T)
  have e : (w.alloc o1).heap.size = w.heap.size + 1 := by simp
  rw [e] at this; exact this
theorem below3 {w : World} {o1 o2 o3 : Obj} : Below w.heap.size w (((w.alloc o1).alloc o2).alloc o3) := below_a below_2


theorem Blk.set1 {w : World} {b : Nat} {x y z : Value} (h : Blk w b #[x, y, z]) (x' : Value) : Blk (w.setCell ⟨b, 0, none⟩ x') b #[x', y, z] := by
  obtain ⟨h1, T, h2⟩ := h
  exact ⟨by simpa [World.setCell] using h1, T, heap_setC h2 x'⟩
theorem Blk.other1 {w : World} {b b' j : Nat} {c : Array Value} (h : Blk w b c) (hne : b ≠ b') (x : Value) : Blk (w.setCell ⟨b', j, none⟩ x) b c := by
  obtain ⟨h1, T, h2⟩ := h
  exact ⟨by simpa [World.setCell] using h1, T, heap_setO h2 x hne⟩
theorem RdN.set1 {w : World} {v : Value} {l : List Nat} {b : Nat} {c : Array Value} (h : RdN w v l) (hB : Blk w b c) (hc : ∀ x ∈ c.toList, ∀ n : Nat, x ≠ L64 n) (x : Value) : RdN (w.setCell ⟨b, 0, none⟩ x) v l := by
  have h2 := (h.away hB hc).keep (S := fun g => g = b) ((Fr.refl (fun g => g = b) w).setCell (p := ⟨b, 0, none⟩) rfl x) (fun _ h => h)
  exact h2.mono (fun _ _ _ => trivial)
theorem Num.set1 {w : World} {v : Value} {n b : Nat} {c : Array Value} (h : Num w v n) (hB : Blk w b c) (hc : ∀ x ∈ c.toList, ∀ n : Nat, x ≠ L64 n) (x : Value) : Num (w.setCell ⟨b, 0, none⟩ x) v n := by
  obtain ⟨l, h1, h2⟩ := h; exact ⟨l, h1.set1 hB hc x, h2⟩
theorem Num.set3 {w : World} {v : Value} {n b : Nat} {c : Array Value} (h : Num w v n) (hB : Blk w b c) (hc : ∀ x ∈ c.toList, ∀ n : Nat, x ≠ L64 n) (x y z : Value) : Num (((w.setCell ⟨b, 0, none⟩ x).setCell ⟨b, 1, none⟩ y).setCell ⟨b, 2, none⟩ z) v n := by
  obtain ⟨l, h1, h2⟩ := h; exact ⟨l, h1.set3 hB hc x y z, h2⟩
theorem Bare_q {w : World} {v : Value} {neg n' : Bool} {M M' : Nat} {E E' k : Int} (h : Num w v M) (hT : Tab w) (h1 : -9223372036854775808 ≤ E) (h2 : E ≤ 9223372036854775807) (e : makeQ ⟨neg, M, E⟩ = (n', M', E', k)) :
    Calls Tryd.prog 51 #[.agg #[.bool neg, v, .int .i64 E]] w (fun e w' => ∃ v, e = .returned (.tuple #[.agg #[.bool n', v, .int .i64 E'], .int .i64 k]) ∧ RdN w' v (digs BB M') ∧ Below w.heap.size w w') := by
  unfold makeQ at e
  split at e
  · rename_i hf
    injection e with e1 e2; injection e2 with e2 e3; injection e3 with e3 e4
    subst e1 e2 e3 e4
    exact Bare_ok h hT h1 h2 rfl hf
  · rename_i hf
    injection e with e1 e2; injection e2 with e2 e3; injection e3 with e3 e4
    subst e1 e2 e3 e4
    refine (Bare_long h hT h1 h2 rfl (eq_false_of_ne_true hf)).mono ?_
    rintro r w' ⟨rfl, hB⟩
    exact ⟨_, rfl, RdN.nil0 _, hB⟩
theorem Make_q {w : World} {v : Value} {neg n' : Bool} {M M' : Nat} {E E' k : Int} (h : Num w v M) (hT : Tab w) (h1 : -9223372036854775808 ≤ E) (h2 : E ≤ 9223372036854775807) (e : makeQ ⟨neg, M, E⟩ = (n', M', E', k)) :
    Calls Tryd.prog 40 #[.bool neg, v, .int .i64 E] w (fun e w' => ∃ v, e = .returned (.tuple #[.agg #[.bool n', v, .int .i64 E'], .int .i64 k]) ∧ RdN w' v (digs BB M') ∧ Below w.heap.size w w') := by
  unfold makeQ at e
  split at e
  · rename_i hf
    injection e with e1 e2; injection e2 with e2 e3; injection e3 with e3 e4
    subst e1 e2 e3 e4
    exact Make_ok h hT h1 h2 rfl hf
  · rename_i hf
    injection e with e1 e2; injection e2 with e2 e3; injection e3 with e3 e4
    subst e1 e2 e3 e4
    refine (Make_long h hT h1 h2 rfl (eq_false_of_ne_true hf)).mono ?_
    rintro r w' ⟨rfl, hB⟩
    exact ⟨_, rfl, RdN.nil0 _, hB⟩
end Go.Proofs.YtflkemcoomgoiaaDoor

/- dyad.Add by its contract: what addQ tells. Conditions: the numbers are short; math/bits' table stands in its variable. -/
namespace Go.Proofs.YtflkemcoomgoiaaDoor
set_option maxRecDepth 100000
open Go.RowKit Go.ChangeShapes Go.WideShapes

theorem bitN_sum {a b k : Nat} (ha : bitN a ≤ k) (hb : bitN b ≤ k) : bitN (a + b) ≤ k + 1 := by
  rw [bitN_le] at *
  rw [Nat.pow_succ]; omega
theorem bareD_odd' {neg : Bool} {M : Nat} {E : Int} (h : M % 2 = 1) (h1 : -2147483648 ≤ E) (h2 : E ≤ 2147483648) : bareD ⟨neg, M, E⟩ = ⟨neg, M, E⟩ := by
  rw [bareD_pos (show (⟨neg, M, E⟩ : Dn).m ≠ 0 by simp only; omega)]
  simp only [low2_odd h, Nat.pow_zero, Nat.div_one]
  unfold cutE
  congr 1; omega

end Go.Proofs.YtflkemcoomgoiaaDoor
