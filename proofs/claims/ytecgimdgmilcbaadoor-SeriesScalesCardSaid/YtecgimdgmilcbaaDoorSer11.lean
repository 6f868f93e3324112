/- series.Within by its contract. Conditions: the numbers are short; math/bits' table stands in its variable. -/
import Derived.Test.YtecgimdgmilcbaaDoorSer10
import Derived.Test.YtecgimdgmilcbaaDoorDy5
import Derived.Test.YtecgimdgmilcbaaDoorSix
import Derived.Test.YtecgimdgmilcbaaDoorDyVal
namespace Go.Proofs.YtecgimdgmilcbaaDoor
set_option maxRecDepth 100000
open Go.RowKit Go.ChangeShapes Go.WideShapes
set_option linter.unusedVariables false

theorem Tab.set3 {w : World} {b : Nat} (h : Tab w) (hb : 2 ≠ b) (x y z : Value) : Tab (((w.setCell ⟨b, 0, none⟩ x).setCell ⟨b, 1, none⟩ y).setCell ⟨b, 2, none⟩ z) :=
  h.fr ((((Fr.refl (fun g => g = b) w).setCell (p := ⟨b, 0, none⟩) rfl x).setCell (p := ⟨b, 1, none⟩) rfl y).setCell (p := ⟨b, 2, none⟩) rfl z) hb

theorem bareD_bits {neg n' : Bool} {M M' : Nat} {E E' : Int} (e : bareD ⟨neg, M, E⟩ = ⟨n', M', E'⟩) : bitN M' ≤ bitN M := by
  have h := bareD_m_le ⟨neg, M, E⟩
  rw [e] at h
  exact bitN_mono h
theorem bareD_again {neg n' : Bool} {M M' : Nat} {E E' : Int} (e : bareD ⟨neg, M, E⟩ = ⟨n', M', E'⟩) (h1 : -2147483648 ≤ E') (h2 : E' ≤ 2147483648) : bareD ⟨n', M', E'⟩ = ⟨n', M', E'⟩ := by
  by_cases h0 : M = 0
  · rw [bareD_zero h0] at e
    injection e with e1 e2 e3
    subst e1; subst e2; subst e3
    rfl
  · rw [bareD_pos h0] at e
    injection e with e1 e2 e3
    obtain ⟨m, hm⟩ := low2_eq h0
    have : M' % 2 = 1 := by rw [← e2, odd_eq hm]; omega
    have h3 : (⟨n', M', E'⟩ : Dn).m ≠ 0 := by show M' ≠ 0; omega
    rw [bareD_pos h3]
    show (⟨n', M' / 2 ^ low2 M', cutE E' + (low2 M' : Nat)⟩ : Dn) = _
    rw [low2_odd this, Nat.pow_zero, Nat.div_one, show cutE E' = E' by unfold cutE; omega]
    simp
theorem bareD_fits {neg n' : Bool} {M M' : Nat} {E E' : Int} (e : bareD ⟨neg, M, E⟩ = ⟨n', M', E'⟩) (sM : bitN M ≤ 400000) (h1 : -1000000000 ≤ E) (h2 : E ≤ 1000000000) : fitsE E' = true ∧ -1000000000 ≤ E' ∧ E' ≤ 1001000000 := by
  by_cases h0 : M = 0
  · rw [bareD_zero h0] at e
    injection e with e1 e2 e3
    subst e3
    exact ⟨rfl, by omega, by omega⟩
  · rw [bareD_pos h0] at e
    injection e with e1 e2 e3
    have h3 := low2_lt (n := M) h0
    have h4 : cutE E = E := by unfold cutE; omega
    dsimp only at e3
    rw [h4] at e3
    refine ⟨?_, by omega, by omega⟩
    unfold fitsE
    rw [Bool.and_eq_true]
    exact ⟨decide_eq_true (by omega), decide_eq_true (by omega)⟩

set_option maxHeartbeats 2000000 in
theorem Within_n {w : World} {v u : Value} {neg n1 n2 : Bool} {L H m1 m2 : Nat} {s e1 e2 : Int} (h : Num w v L) (k : Num w u H) (hT : Tab w) (hLH : L ≤ H) (sH : bitN H ≤ 300000) (s1 : -1000000 ≤ s) (s2 : s ≤ 1000000)
    (q1 : bareD ⟨neg, if neg then H else L, -s⟩ = ⟨n1, m1, e1⟩) (q2 : bareD ⟨neg, if neg then L else H, -s⟩ = ⟨n2, m2, e2⟩) :
    Calls Tryd.prog 27 #[v, u, .int .i64 s, .bool neg] w fun e w' => ∃ x y, e = .returned (.agg #[.bool n1, x, .int .i64 e1, .bool n2, y, .int .i64 e2]) ∧ RdN w' x (digs BB m1) ∧ RdN w' y (digs BB m2) ∧ Below w.heap.size w w' := by
  have sL : bitN L ≤ 300000 := Nat.le_trans (bitN_mono hLH) sH
  have wn : IntKind.i64.wrap (-s) = -s := by rw [IntKind.wrap_i64]; omega
  cases neg
  · simp only [Bool.false_eq_true, if_false] at q1 q2
    obtain ⟨f1, r1, r2⟩ := bareD_fits q1 (by omega) (by omega) (by omega)
    obtain ⟨f2, r3, r4⟩ := bareD_fits q2 (by omega) (by omega) (by omega)
    have b1 := bareD_bits q1
    have b2 := bareD_bits q2
    have hc : cmpD ⟨n1, m1, e1⟩ ⟨n2, m2, e2⟩ ≤ 0 := by
      apply cmpD_le
      rw [← q1, ← q2, qv_bare (by show -2147483648 ≤ -s; omega) (by show -s ≤ 2147483648; omega), qv_bare (by show -2147483648 ≤ -s; omega) (by show -s ≤ 2147483648; omega)]
      exact Rat.mul_le_mul_of_nonneg_right (Rat.natCast_le_natCast.2 hLH) (Rat.le_of_lt (pw_pos _))
    obtain ⟨c, hcc⟩ : ∃ c, cmpD ⟨n1, m1, e1⟩ ⟨n2, m2, e2⟩ = c := ⟨_, rfl⟩
    have dc : decide (0 < c) = false := decide_eq_false (by omega)
    have HA := Lib.hid (fun w v (h : Num w v L) (hT : Tab w) => Make_ok h hT (by omega) (by omega) q1 f1)
    have HB := Lib.hid (fun w v (h : Num w v H) (hT : Tab w) => Make_ok h hT (by omega) (by omega) q2 f2)
    have HC := Lib.hid (fun w v u (h : RdN w v (digs BB m1)) (k : RdN w u (digs BB m2)) (hT : Tab w) => Cmp_n (h.num (by omega)) (k.num (by omega)) hT (by omega) (by omega) (by omega) (by omega) (bareD_again q1 (by omega) (by omega)) (bareD_again q2 (by omega) (by omega)) (by omega) (by omega) hcc)
    clear q1 q2 hc hcc f1 f2 r1 r2 r3 r4
    go_enter Tryd.func27, Tryd.ntmps27
    go_wp2_with
    (first
      | (go_at_call 52; (with_reducible refine (HA.out _ _ (h.below (below_alloc _ _)) (hT.below (below_alloc _ _))).mono ?_); rintro e w1 ⟨vx1, rfl, x1, hb1⟩; have B1 := (below_alloc _ _).trans (hb1.mono (below_alloc _ _).size); have m1 := ((h.below (below_alloc _ _))).below hb1; have g1 := ((k.below (below_alloc _ _))).below hb1; have T1 := ((hT.below (below_alloc _ _))).below hb1; have R1 := ((blk_new)).below hb1; obtain ⟨cR0_1, cR1_1, cR2_1, cR3_1, cR4_1, cR5_1, fR0_1, fR1_1, fR2_1, fR3_1, fR4_1, fR5_1, sR_1⟩ := R1.open6; obtain ⟨ax1, kx1, rfl, -⟩ := x1.view; try simp only [List.length_nil] at x1)
      | (go_at_call 52; (with_reducible refine (HB.out _ _ (g1.below (below_alloc _ _)) (T1.below (below_alloc _ _))).mono ?_); rintro e w2 ⟨vy2, rfl, y2, hb2⟩; have hb2' := (below_a hb2); have B2 := B1.trans (hb2'.mono B1.size); have m2 := m1.below hb2'; have g2 := g1.below hb2'; have T2 := T1.below hb2'; have R2 := R1.below hb2'; have x2 := x1.below hb2'; clear m1 g1 T1 R1 x1; have P2 := blk_new.below hb2; clear cR0_1 cR1_1 cR2_1 cR3_1 cR4_1 cR5_1 fR0_1 fR1_1 fR2_1 fR3_1 fR4_1 fR5_1 sR_1; obtain ⟨cR0_2, cR1_2, cR2_2, cR3_2, cR4_2, cR5_2, fR0_2, fR1_2, fR2_2, fR3_2, fR4_2, fR5_2, sR_2⟩ := R2.open6; obtain ⟨cP0_2, cP1_2, cP2_2, fP0_2, fP1_2, fP2_2, sP_2⟩ := P2.open3; obtain ⟨ay2, ky2, rfl, -⟩ := y2.view; try simp only [List.length_nil] at y2)
      | (go_at_call 30; (with_reducible refine (HC.out _ _ _ (x2.below (below_alloc _ _)) (y2.below (below_alloc _ _)) (T2.below (below_alloc _ _))).mono ?_); rintro e w3 ⟨rfl, hb3⟩; have hb3' := (below_a hb3); have B3 := B2.trans (hb3'.mono B2.size); have m3 := m2.below hb3'; have g3 := g2.below hb3'; have T3 := T2.below hb3'; have R3 := R2.below hb3'; have x3 := x2.below hb3'; have P3 := P2.below hb3'; have y3 := y2.below hb3'; clear m2 g2 T2 R2 x2 P2 y2; have Q3 := blk_new.below hb3; clear cR0_2 cR1_2 cR2_2 cR3_2 cR4_2 cR5_2 fR0_2 fR1_2 fR2_2 fR3_2 fR4_2 fR5_2 sR_2; obtain ⟨cR0_3, cR1_3, cR2_3, cR3_3, cR4_3, cR5_3, fR0_3, fR1_3, fR2_3, fR3_3, fR4_3, fR5_3, sR_3⟩ := R3.open6; clear cP0_2 cP1_2 cP2_2 fP0_2 fP1_2 fP2_2 sP_2; obtain ⟨cP0_3, cP1_3, cP2_3, fP0_3, fP1_3, fP2_3, sP_3⟩ := P3.open3; obtain ⟨cQ0_3, cQ1_3, cQ2_3, fQ0_3, fQ1_3, fQ2_3, sQ_3⟩ := Q3.open3)
      | fail)
    obtain ⟨z0, z1, z2, z3, z4, z5, -⟩ := (R3.set6 (.bool n1) (.slice ax1 (digs BB m1).length kx1) (.int .i64 e1) (.bool n2) (.slice ay2 (digs BB m2).length ky2) (.int .i64 e2)).open6
    refine bodyPost_ret (v := .agg #[.bool n1, .slice ax1 (digs BB m1).length kx1, .int .i64 e1, .bool n2, .slice ay2 (digs BB m2).length ky2, .int .i64 e2]) (by simp [results, Tryd.results27, go_sem, z0, z1, z2, z3, z4, z5]) rfl ⟨_, _, rfl, x3.set6 R3 dcells6 _ _ _ _ _ _, y3.set6 R3 dcells6 _ _ _ _ _ _, below_set6 B3 (by omega) _ _ _ _ _ _⟩
  · simp only [if_true] at q1 q2
    obtain ⟨f1, r1, r2⟩ := bareD_fits q1 (by omega) (by omega) (by omega)
    obtain ⟨f2, r3, r4⟩ := bareD_fits q2 (by omega) (by omega) (by omega)
    have b1 := bareD_bits q1
    have b2 := bareD_bits q2
    by_cases hlt : L < H
    · have hc : cmpD ⟨n2, m2, e2⟩ ⟨n1, m1, e1⟩ = 1 := by
        apply cmpD_gt
        rw [← q1, ← q2, qv_bare (by show -2147483648 ≤ -s; omega) (by show -s ≤ 2147483648; omega), qv_bare (by show -2147483648 ≤ -s; omega) (by show -s ≤ 2147483648; omega), qv_neg, qv_neg]
        have := Rat.mul_lt_mul_of_pos_right (Rat.natCast_lt_natCast.2 hlt) (pw_pos (-s))
        generalize (L : Rat) * pw (-s) = a at *
        generalize (H : Rat) * pw (-s) = b at *
        grind
      have HA := Lib.hid (fun w v (h : Num w v L) (hT : Tab w) => Make_ok h hT (by omega) (by omega) q2 f2)
      have HB := Lib.hid (fun w v (h : Num w v H) (hT : Tab w) => Make_ok h hT (by omega) (by omega) q1 f1)
      have HC := Lib.hid (fun w v u (h : RdN w v (digs BB m2)) (k : RdN w u (digs BB m1)) (hT : Tab w) => Cmp_n (h.num (by omega)) (k.num (by omega)) hT (by omega) (by omega) (by omega) (by omega) (bareD_again q2 (by omega) (by omega)) (bareD_again q1 (by omega) (by omega)) (by omega) (by omega) hc)
      clear q1 q2 hc f1 f2 r1 r2 r3 r4
      go_enter Tryd.func27, Tryd.ntmps27
      go_upto_region 5 with
      (first
        | (go_at_call 52; (with_reducible refine (HA.out _ _ (h.below (below_alloc _ _)) (hT.below (below_alloc _ _))).mono ?_); rintro e w1 ⟨vx1, rfl, x1, hb1⟩; have B1 := (below_alloc _ _).trans (hb1.mono (below_alloc _ _).size); have m1 := ((h.below (below_alloc _ _))).below hb1; have g1 := ((k.below (below_alloc _ _))).below hb1; have T1 := ((hT.below (below_alloc _ _))).below hb1; have R1 := ((blk_new)).below hb1; obtain ⟨cR0_1, cR1_1, cR2_1, cR3_1, cR4_1, cR5_1, fR0_1, fR1_1, fR2_1, fR3_1, fR4_1, fR5_1, sR_1⟩ := R1.open6; obtain ⟨ax1, kx1, rfl, -⟩ := x1.view; (try simp only [List.length_nil] at x1); have hl1 := Lib.hid R1.1)
        | (go_at_call 52; (with_reducible refine (HB.out _ _ (g1.below (below_alloc _ _)) (T1.below (below_alloc _ _))).mono ?_); rintro e w2 ⟨vy2, rfl, y2, hb2⟩; have hb2' := (below_a hb2); have B2 := B1.trans (hb2'.mono B1.size); have m2 := m1.below hb2'; have g2 := g1.below hb2'; have T2 := T1.below hb2'; have R2 := R1.below hb2'; have x2 := x1.below hb2'; clear m1 g1 T1 R1 x1; have P2 := blk_new.below hb2; clear cR0_1 cR1_1 cR2_1 cR3_1 cR4_1 cR5_1 fR0_1 fR1_1 fR2_1 fR3_1 fR4_1 fR5_1 sR_1; obtain ⟨cR0_2, cR1_2, cR2_2, cR3_2, cR4_2, cR5_2, fR0_2, fR1_2, fR2_2, fR3_2, fR4_2, fR5_2, sR_2⟩ := R2.open6; obtain ⟨cP0_2, cP1_2, cP2_2, fP0_2, fP1_2, fP2_2, sP_2⟩ := P2.open3; obtain ⟨ay2, ky2, rfl, -⟩ := y2.view; (try simp only [List.length_nil] at y2); have hl2 := Lib.hid P2.1; have ne1 := Lib.hid (Nat.ne_of_lt P2.1); have ne2 := Lib.hid (Nat.ne_of_gt P2.1))
        | (go_at_call 30; (with_reducible refine (HC.out _ _ _ (x2.below (below_alloc _ _)) (y2.below (below_alloc _ _)) (T2.below (below_alloc _ _))).mono ?_); rintro e w3 ⟨rfl, hb3⟩; have hb3' := (below_a hb3); have B3 := B2.trans (hb3'.mono B2.size); have m3 := m2.below hb3'; have g3 := g2.below hb3'; have T3 := T2.below hb3'; have R3 := R2.below hb3'; have x3 := x2.below hb3'; have P3 := P2.below hb3'; have y3 := y2.below hb3'; clear m2 g2 T2 R2 x2 P2 y2; have Q3 := blk_new.below hb3; clear cR0_2 cR1_2 cR2_2 cR3_2 cR4_2 cR5_2 fR0_2 fR1_2 fR2_2 fR3_2 fR4_2 fR5_2 sR_2; obtain ⟨cR0_3, cR1_3, cR2_3, cR3_3, cR4_3, cR5_3, fR0_3, fR1_3, fR2_3, fR3_3, fR4_3, fR5_3, sR_3⟩ := R3.open6; clear cP0_2 cP1_2 cP2_2 fP0_2 fP1_2 fP2_2 sP_2; obtain ⟨cP0_3, cP1_3, cP2_3, fP0_3, fP1_3, fP2_3, sP_3⟩ := P3.open3; obtain ⟨cQ0_3, cQ1_3, cQ2_3, fQ0_3, fQ1_3, fQ2_3, sQ_3⟩ := Q3.open3; obtain ⟨kc0, kc1, kc2, kf0, kf1, kf2, -⟩ := (Q3.other3 ne2.out (.bool n1) (.slice ay2 (digs BB m1).length ky2) (.int .i64 e1)).open3)
        | fail)
      have P4 := (P3.set3 (.bool n1) (.slice ay2 (digs BB m1).length ky2) (.int .i64 e1)).other3 ne1.out (.bool n2) (.slice ax1 (digs BB m2).length kx1) (.int .i64 e2)
      have Q4 := (Q3.other3 ne2.out (.bool n1) (.slice ay2 (digs BB m1).length ky2) (.int .i64 e1)).set3 (.bool n2) (.slice ax1 (digs BB m2).length kx1) (.int .i64 e2)
      have l1 : w.heap.size < w1.heap.size := hl1.out
      have l2 : w1.heap.size < w2.heap.size := hl2.out
      have R4 := (R3.other3 (show w.heap.size ≠ w1.heap.size by omega) (.bool n1) (.slice ay2 (digs BB m1).length ky2) (.int .i64 e1)).other3 (show w.heap.size ≠ w2.heap.size by omega) (.bool n2) (.slice ax1 (digs BB m2).length kx1) (.int .i64 e2)
      have x4 := (x3.set3 P3 dcells (.bool n1) (.slice ay2 (digs BB m1).length ky2) (.int .i64 e1)).set3 (Q3.other3 ne2.out (.bool n1) (.slice ay2 (digs BB m1).length ky2) (.int .i64 e1)) dcells (.bool n2) (.slice ax1 (digs BB m2).length kx1) (.int .i64 e2)
      have y4 := (y3.set3 P3 dcells (.bool n1) (.slice ay2 (digs BB m1).length ky2) (.int .i64 e1)).set3 (Q3.other3 ne2.out (.bool n1) (.slice ay2 (digs BB m1).length ky2) (.int .i64 e1)) dcells (.bool n2) (.slice ax1 (digs BB m2).length kx1) (.int .i64 e2)
      have B4 := below_set3 (below_set3 B3 (show w.heap.size ≤ w1.heap.size by omega) (.bool n1) (.slice ay2 (digs BB m1).length ky2) (.int .i64 e1)) (show w.heap.size ≤ w2.heap.size by omega) (.bool n2) (.slice ax1 (digs BB m2).length kx1) (.int .i64 e2)
      generalize (((((w3.setCell ⟨w1.heap.size, 0, none⟩ (.bool n1)).setCell ⟨w1.heap.size, 1, none⟩ (.slice ay2 (digs BB m1).length ky2)).setCell ⟨w1.heap.size, 2, none⟩ (.int .i64 e1)).setCell ⟨w2.heap.size, 0, none⟩ (.bool n2)).setCell ⟨w2.heap.size, 1, none⟩ (.slice ax1 (digs BB m2).length kx1)).setCell ⟨w2.heap.size, 2, none⟩ (.int .i64 e2) = w4 at *
      obtain ⟨cP0, cP1, cP2, fP0, fP1, fP2, -⟩ := P4.open3
      obtain ⟨cQ0, cQ1, cQ2, fQ0, fQ1, fQ2, -⟩ := Q4.open3
      obtain ⟨cR0, cR1, cR2, cR3, cR4, cR5, fR0, fR1, fR2, fR3, fR4, fR5, -⟩ := R4.open6
      go_wp2_with fail
      obtain ⟨z0, z1, z2, z3, z4, z5, -⟩ := (R4.set6 (.bool n1) (.slice ay2 (digs BB m1).length ky2) (.int .i64 e1) (.bool n2) (.slice ax1 (digs BB m2).length kx1) (.int .i64 e2)).open6
      refine bodyPost_ret (v := .agg #[.bool n1, .slice ay2 (digs BB m1).length ky2, .int .i64 e1, .bool n2, .slice ax1 (digs BB m2).length kx1, .int .i64 e2]) (by simp [results, Tryd.results27, go_sem, z0, z1, z2, z3, z4, z5]) rfl ⟨_, _, rfl, y4.set6 R4 dcells6 _ _ _ _ _ _, x4.set6 R4 dcells6 _ _ _ _ _ _, below_set6 B4 (Nat.le_refl _) _ _ _ _ _ _⟩
    · obtain rfl : L = H := by omega
      have hq := q1.symm.trans q2
      injection hq with g1 g2 g3
      subst g1; subst g2; subst g3
      have hc : cmpD ⟨n1, m1, e1⟩ ⟨n1, m1, e1⟩ = 0 := by
        have h1 := cmpD_le (a := ⟨n1, m1, e1⟩) (b := ⟨n1, m1, e1⟩) Rat.le_refl
        have h2 := cmpD_ge (a := ⟨n1, m1, e1⟩) (b := ⟨n1, m1, e1⟩) Rat.le_refl
        omega
      have HA := Lib.hid (fun w v (h : Num w v L) (hT : Tab w) => Make_ok h hT (by omega) (by omega) q2 f2)
      have HC := Lib.hid (fun w v u (h : RdN w v (digs BB m1)) (k : RdN w u (digs BB m1)) (hT : Tab w) => Cmp_n (h.num (by omega)) (k.num (by omega)) hT (by omega) (by omega) (by omega) (by omega) (bareD_again q2 (by omega) (by omega)) (bareD_again q1 (by omega) (by omega)) (by omega) (by omega) hc)
      clear q1 q2 hc f1 f2 r1 r2 r3 r4
      go_enter Tryd.func27, Tryd.ntmps27
      go_wp2_with
      (first
        | (go_at_call 52; (with_reducible refine (HA.out _ _ (h.below (below_alloc _ _)) (hT.below (below_alloc _ _))).mono ?_); rintro e w1 ⟨vx1, rfl, x1, hb1⟩; have B1 := (below_alloc _ _).trans (hb1.mono (below_alloc _ _).size); have m1 := ((h.below (below_alloc _ _))).below hb1; have g1 := ((k.below (below_alloc _ _))).below hb1; have T1 := ((hT.below (below_alloc _ _))).below hb1; have R1 := ((blk_new)).below hb1; obtain ⟨cR0_1, cR1_1, cR2_1, cR3_1, cR4_1, cR5_1, fR0_1, fR1_1, fR2_1, fR3_1, fR4_1, fR5_1, sR_1⟩ := R1.open6; obtain ⟨ax1, kx1, rfl, -⟩ := x1.view; try simp only [List.length_nil] at x1)
        | (go_at_call 52; (with_reducible refine (HA.out _ _ (g1.below (below_alloc _ _)) (T1.below (below_alloc _ _))).mono ?_); rintro e w2 ⟨vy2, rfl, y2, hb2⟩; have hb2' := (below_a hb2); have B2 := B1.trans (hb2'.mono B1.size); have m2 := m1.below hb2'; have g2 := g1.below hb2'; have T2 := T1.below hb2'; have R2 := R1.below hb2'; have x2 := x1.below hb2'; clear m1 g1 T1 R1 x1; have P2 := blk_new.below hb2; clear cR0_1 cR1_1 cR2_1 cR3_1 cR4_1 cR5_1 fR0_1 fR1_1 fR2_1 fR3_1 fR4_1 fR5_1 sR_1; obtain ⟨cR0_2, cR1_2, cR2_2, cR3_2, cR4_2, cR5_2, fR0_2, fR1_2, fR2_2, fR3_2, fR4_2, fR5_2, sR_2⟩ := R2.open6; obtain ⟨cP0_2, cP1_2, cP2_2, fP0_2, fP1_2, fP2_2, sP_2⟩ := P2.open3; obtain ⟨ay2, ky2, rfl, -⟩ := y2.view; try simp only [List.length_nil] at y2)
        | (go_at_call 30; (with_reducible refine (HC.out _ _ _ (x2.below (below_alloc _ _)) (y2.below (below_alloc _ _)) (T2.below (below_alloc _ _))).mono ?_); rintro e w3 ⟨rfl, hb3⟩; have hb3' := (below_a hb3); have B3 := B2.trans (hb3'.mono B2.size); have m3 := m2.below hb3'; have g3 := g2.below hb3'; have T3 := T2.below hb3'; have R3 := R2.below hb3'; have x3 := x2.below hb3'; have P3 := P2.below hb3'; have y3 := y2.below hb3'; clear m2 g2 T2 R2 x2 P2 y2; have Q3 := blk_new.below hb3; clear cR0_2 cR1_2 cR2_2 cR3_2 cR4_2 cR5_2 fR0_2 fR1_2 fR2_2 fR3_2 fR4_2 fR5_2 sR_2; obtain ⟨cR0_3, cR1_3, cR2_3, cR3_3, cR4_3, cR5_3, fR0_3, fR1_3, fR2_3, fR3_3, fR4_3, fR5_3, sR_3⟩ := R3.open6; clear cP0_2 cP1_2 cP2_2 fP0_2 fP1_2 fP2_2 sP_2; obtain ⟨cP0_3, cP1_3, cP2_3, fP0_3, fP1_3, fP2_3, sP_3⟩ := P3.open3; obtain ⟨cQ0_3, cQ1_3, cQ2_3, fQ0_3, fQ1_3, fQ2_3, sQ_3⟩ := Q3.open3)
        | fail)
      obtain ⟨z0, z1, z2, z3, z4, z5, -⟩ := (R3.set6 (.bool n1) (.slice ax1 (digs BB m1).length kx1) (.int .i64 e1) (.bool n1) (.slice ay2 (digs BB m1).length ky2) (.int .i64 e1)).open6
      refine bodyPost_ret (v := .agg #[.bool n1, .slice ax1 (digs BB m1).length kx1, .int .i64 e1, .bool n1, .slice ay2 (digs BB m1).length ky2, .int .i64 e1]) (by simp [results, Tryd.results27, go_sem, z0, z1, z2, z3, z4, z5]) rfl ⟨_, _, rfl, x3.set6 R3 dcells6 _ _ _ _ _ _, y3.set6 R3 dcells6 _ _ _ _ _ _, below_set6 B3 (by omega) _ _ _ _ _ _⟩
end Go.Proofs.YtecgimdgmilcbaaDoor
