/- planimeterref05.To by its contract. Conditions: the number is short. -/
import Derived.Test.YtecgimdgmilcbaaDoorRefDy2
import Derived.Test.YtecgimdgmilcbaaDoorDy4
import Derived.Deep.RegionHeld3
import Derived.Deep.CutBlock
namespace Go.Proofs.YtecgimdgmilcbaaDoor
set_option maxRecDepth 100000
open Go.RowKit Go.ChangeShapes Go.WideShapes

theorem rof_n {w : World} {v : Value} {A : Nat} (h : RdD w v (digs DD A)) (sA : bitN A ≤ 400000) : Calls Tryd.prog 54 #[v] w (One w (digs BB A)) := rof_any h (Nat.le_trans (digsDlen sA) (by omega))

set_option maxHeartbeats 1000000 in
theorem RTo_n {w : World} {u : Value} {neg n' : Bool} {M M' : Nat} {E E' : Int} (h : RdD w u (digs DD M)) (sM : bitN M ≤ 200000) (h1 : -9223372036854775808 ≤ E) (h2 : E ≤ 9223372036854775807) (e : bareD ⟨neg, M, E⟩ = ⟨n', M', E'⟩) (hf : fitsE E' = true) :
    Calls Tryd.prog 28 #[.agg #[.bool neg, u, .int .i64 E]] w (fun e w' => ∃ v, e = .returned (.tuple #[.agg #[.bool n', v, .int .i64 E'], .int .i64 0]) ∧ RdN w' v (digs BB M') ∧ Below w.heap.size w w') := by
  obtain ⟨a, n, k, rfl⟩ := h.slice
  have sMn : bitN M ≤ 400000 := by omega
  have sM6 : bitN M ≤ 2560000 := by omega
  have sM' : bitN M' ≤ 400000 := by
    have := bareD_m_le ⟨neg, M, E⟩
    rw [e] at this
    exact Nat.le_trans (bitN_mono this) sMn
  have ee := Lib.hid e
  have HO := Lib.hid (fun w v (h : RdN w v (digs BB M)) => ROf_n (h.num sM6) sM h1 h2 e)
  have HF := Lib.hid (fun w a n k => RFits_n (w := w) (a := a) (n := n) (k := k) (neg := n') (E := E'))
  rw [hf] at HF
  clear e
  go_enter Tryd.func28, Tryd.ntmps28
  go_upto_region 1 with fail
  have P0 : Blk ((w.alloc (.cells #[.bool neg, .slice a n k, .int .i64 E] 53)).alloc (.cells #[.bool false, .slice none 0 0, .int .i64 0] 54)) w.heap.size #[.bool neg, .slice a n k, .int .i64 E] := blk_a1
  have R0 : Blk ((w.alloc (.cells #[.bool neg, .slice a n k, .int .i64 E] 53)).alloc (.cells #[.bool false, .slice none 0 0, .int .i64 0] 54)) (w.heap.size + 1) #[.bool false, .slice none 0 0, .int .i64 0] := blk_a2
  have B0 : Below w.heap.size w ((w.alloc (.cells #[.bool neg, .slice a n k, .int .i64 E] 53)).alloc (.cells #[.bool false, .slice none 0 0, .int .i64 0] 54)) := below_2
  have m0 : RdD ((w.alloc (.cells #[.bool neg, .slice a n k, .int .i64 E] 53)).alloc (.cells #[.bool false, .slice none 0 0, .int .i64 0] 54)) _ _ := h.below B0
  generalize (w.alloc (.cells #[.bool neg, .slice a n k, .int .i64 E] 53)).alloc (.cells #[.bool false, .slice none 0 0, .int .i64 0] 54) = w0 at *
  generalize hb0 : w.heap.size = b0 at *
  go_cut [4] (fun x wx => ∃ bx ax kx, x = .pointer (some ⟨bx, 0, none⟩) ∧ Blk wx bx #[.bool n', .slice ax (digs DD M').length kx, .int .i64 E'] ∧ RdD wx (.slice ax (digs DD M').length kx) (digs DD M') ∧ Blk wx (b0 + 1) #[.bool false, .slice none 0 0, .int .i64 0] ∧ bx ≠ b0 + 1 ∧ Below b0 w wx)
  case first =>
    have hAD : Below w0.heap.size w0 w0.drew := below_drewN (Below.refl _ _) 1
    have hAA : Below w0.heap.size w0 (w0.alloc (.cells #[.bool false, .slice none 0 0, .int .i64 0] 53)).drew := below_drewN (below_alloc w0 _) 1
    have NA : Blk (w0.alloc (.cells #[.bool false, .slice none 0 0, .int .i64 0] 53)).drew w0.heap.size #[.bool false, .slice none 0 0, .int .i64 0] := blk_new.below (below_drewN (Below.refl _ _) 1)
    have hPl := P0.1
    have hRl := R0.1
    have hb4 : b0 ≤ w0.heap.size := hb0 ▸ B0.size
    obtain ⟨cP0_0, cP1_0, cP2_0, fP0_0, fP1_0, fP2_0, sP_0⟩ := (P0.below hAD).open3
    obtain ⟨cA0_0, cA1_0, cA2_0, fA0_0, fA1_0, fA2_0, sA_0⟩ := (P0.below hAA).open3
    go_region_held3 (fun w' => w'.cell? ⟨b0, 0, none⟩ = some (.bool neg) ∧ w'.cell? ⟨b0, 1, none⟩ = some (.slice a n k) ∧ w'.cell? ⟨b0, 2, none⟩ = some (.int .i64 E)) (first | with_reducible exact ⟨cP0_0, cP1_0, cP2_0⟩ | with_reducible exact ⟨cA0_0, cA1_0, cA2_0⟩ | with_reducible exact ⟨c1.1, c1.2.1, c1.2.2.1⟩ | with_reducible exact ⟨c2.1, c2.2.1, c2.2.2.1⟩ | with_reducible exact ⟨(c1a _).1, (c1a _).2.1, (c1a _).2.2.1⟩ | with_reducible exact ⟨(c2a _).1, (c2a _).2.1, (c2a _).2.2.1⟩ | with_reducible exact ⟨(c2b _ _ _ _).1, (c2b _ _ _ _).2.1, (c2b _ _ _ _).2.2.1⟩ | with_reducible exact ⟨(c2c _ _ _).1, (c2c _ _ _).2.1, (c2c _ _ _).2.2.1⟩ | with_reducible exact ⟨(c2d _ _ _).1, (c2d _ _ _).2.1, (c2d _ _ _).2.2.1⟩)
      (first
        | (go_at_call 54; (with_reducible refine (rof_n (m0.below hAD) sMn).mono ?_); rintro e w1 ⟨v1, rfl, z1, hb1⟩; have BX1 := hAD.trans (hb1.mono hAD.size); have PX1 := P0.below BX1; have RX1 := R0.below BX1; have c1 := PX1.open3; have c1a := fun o => (PX1.below (below_alloc w1 o)).open3; obtain ⟨a1, k1, rfl, -⟩ := z1.view)
        | (go_at_call 54; (with_reducible refine (rof_n (m0.below hAA) sMn).mono ?_); rintro e w1 ⟨v1, rfl, z1, hb1⟩; have BX1 := hAA.trans (hb1.mono hAA.size); have PX1 := P0.below BX1; have RX1 := R0.below BX1; have c1 := PX1.open3; have c1a := fun o => (PX1.below (below_alloc w1 o)).open3; have NX1 := NA.below hb1; obtain ⟨a1, k1, rfl, -⟩ := z1.view)
        | (go_at_call 53; (with_reducible refine (HO.out _ _ z1).mono ?_); rintro e w2 ⟨v2, rfl, z2, hb2⟩; have BX2 := BX1.trans (hb2.mono BX1.size); have PX2 := P0.below BX2; have RX2 := R0.below BX2; have c2 := PX2.open3; have c2a := fun o => (PX2.below (below_alloc w2 o)).open3; have c2b := fun o x y z => ((PX2.below (below_alloc w2 o)).other3 (Nat.ne_of_lt PX2.1) x y z).open3; have c2c := fun x y z => (PX2.other3 (Nat.ne_of_lt hPl) x y z).open3; have c2d := fun x y z => (PX2.other3 (Nat.ne_of_lt PX1.1) x y z).open3; (first | (have NX2 := NX1.below hb2; obtain ⟨cN0, cN1, cN2, fN0, fN1, fN2, sN⟩ := NX2.open3) | skip); obtain ⟨a2, k2, rfl, -⟩ := z2.view)
        | (go_at_call 53; (with_reducible refine (HO.out _ _ (z1.below (below_alloc _ _))).mono ?_); rintro e w2 ⟨v2, rfl, z2, hb2⟩; have hb2' := below_a hb2; have BX2 := BX1.trans (hb2'.mono BX1.size); have PX2 := P0.below BX2; have RX2 := R0.below BX2; have c2 := PX2.open3; have c2a := fun o => (PX2.below (below_alloc w2 o)).open3; have c2b := fun o x y z => ((PX2.below (below_alloc w2 o)).other3 (Nat.ne_of_lt PX2.1) x y z).open3; have c2c := fun x y z => (PX2.other3 (Nat.ne_of_lt hPl) x y z).open3; have c2d := fun x y z => (PX2.other3 (Nat.ne_of_lt PX1.1) x y z).open3; have NX2 := blk_new.below hb2; obtain ⟨cN0, cN1, cN2, fN0, fN1, fN2, sN⟩ := NX2.open3; obtain ⟨a2, k2, rfl, -⟩ := z2.view)
        | fail)
    · go_wp2_with fail
      go_meet
      exact ⟨w2.heap.size, a2, k2, rfl, blk_new, z2.below (below_alloc _ _), RX2.below (below_alloc _ _), Nat.ne_of_gt RX2.1, (B0.trans (BX2.mono hb4)).alloc (Nat.le_trans hb4 BX2.size) _⟩
    · go_wp2_with fail
      go_meet
      exact ⟨w1.heap.size, a2, k2, rfl, NX2.set3 _ _ _, z2.set3 NX2 dcells32 _ _ _, RX2.other3 (Nat.ne_of_lt RX1.1) _ _ _, Nat.ne_of_gt RX1.1, below_set3b (B0.trans (BX2.mono hb4)) (Nat.le_trans hb4 BX1.size) _ _ _⟩
    · go_wp2_with fail
      go_meet
      exact ⟨w0.heap.size, a2, k2, rfl, NX2.set3 _ _ _, z2.set3 NX2 dcells32 _ _ _, RX2.other3 (Nat.ne_of_lt hRl) _ _ _, Nat.ne_of_gt hRl, below_set3b (B0.trans (BX2.mono hb4)) hb4 _ _ _⟩
  case rest =>
    obtain ⟨bx, ax, kx, rfl, X1, x1, R1, hne, B1⟩ := hcut
    obtain ⟨cX0_0, cX1_0, cX2_0, fX0_0, fX1_0, fX2_0, sX_0⟩ := X1.open3
    obtain ⟨cR0_0, cR1_0, cR2_0, fR0_0, fR1_0, fR2_0, sR_0⟩ := R1.open3
    clear P0 R0 B0 m0
    by_cases h0 : M' = 0
    · subst h0
      have hz := ee.out
      by_cases hM : M = 0
      · rw [hM, bareD_zero rfl] at hz
        injection hz with z1 z2 z3
        subst z1 z3
        have BC := B1
        rw [digs_zero] at *
        go_wp2_with
        (first
          | (go_at_call 55; (with_reducible refine (HF.out _ _ _ _).mono ?_); rintro e w2 ⟨rfl, hb2⟩; have B2 := hb2; have x2 := x1.below hb2; have X2 := X1.below hb2; have R2 := R1.below hb2; clear x1 X1 R1; obtain ⟨cX0_2, cX1_2, cX2_2, fX0_2, fX1_2, fX2_2, sX_2⟩ := X2.open3; obtain ⟨cR0_2, cR1_2, cR2_2, fR0_2, fR1_2, fR2_2, sR_2⟩ := R2.open3)
          | fail)
        obtain ⟨q0, q1, q2, -⟩ := (R2.set3 (.bool false) (.slice none 0 0) (.int .i64 0)).open3
        refine bodyPost_ret (v := .tuple #[.agg #[.bool false, .slice none 0 0, .int .i64 0], .int .i64 0]) ?_ rfl ?_
        · simp [results, Tryd.results28, go_sem, q0, q1, q2]
        · exact ⟨_, rfl, RdN.nil _, hb0 ▸ below_set3b (BC.trans (B2.mono (hb0 ▸ BC.size))) (by omega) _ _ _⟩
      · have := (bareD_m_zero ⟨neg, M, E⟩)
        rw [hz] at this
        exact absurd (this.1 rfl) hM
    · have hsn : digs DD M' ≠ [] := fun e => h0 ((digs_nil_iff DD_two _).1 e)
      have hsi : ((digs DD M').length : Int) ≠ 0 := by have := List.length_pos_iff.2 hsn; omega
      have hsb : (((digs DD M').length : Int) == 0) = false := beq_false_of_ne hsi
      have BC := B1
      have hnx := Nat.ne_of_gt sX_0
      go_wp2_with
      (first
        | (go_at_call 55; (with_reducible refine (HF.out _ _ _ _).mono ?_); rintro e w2 ⟨rfl, hb2⟩; have B2 := hb2; have x2 := x1.below hb2; have X2 := X1.below hb2; have R2 := R1.below hb2; clear x1 X1 R1; obtain ⟨cX0_2, cX1_2, cX2_2, fX0_2, fX1_2, fX2_2, sX_2⟩ := X2.open3; obtain ⟨cR0_2, cR1_2, cR2_2, fR0_2, fR1_2, fR2_2, sR_2⟩ := R2.open3)
        | fail)
      have hAD : Below w2.heap.size w2 w2.drew := below_drewN (Below.refl _ _) 1
      have XD := X2.below hAD; have RD := R2.below hAD; have xD := x2.below hAD
      have BW : Below b0 w w2 := BC.trans (B2.mono (hb0 ▸ BC.size))
      have BD : Below b0 w w2.drew := BW.trans (hAD.mono (hb0 ▸ BW.size))
      obtain ⟨cD0, cD1, cD2, fD0, fD1, fD2, sD⟩ := XD.open3
      obtain ⟨cE0, cE1, cE2, fE0, fE1, fE2, sE⟩ := RD.open3
      clear cX0_2 cX1_2 cX2_2 fX0_2 fX1_2 fX2_2 sX_2 cR0_2 cR1_2 cR2_2 fR0_2 fR1_2 fR2_2 sR_2
      go_region_held3 (fun w' => w'.cell? ⟨bx, 0, none⟩ = some (.bool n') ∧ w'.cell? ⟨bx, 1, none⟩ = some (.slice ax (digs DD M').length kx) ∧ w'.cell? ⟨bx, 2, none⟩ = some (.int .i64 E')) (first | with_reducible exact ⟨cD0, cD1, cD2⟩ | with_reducible exact ⟨cF.1, cF.2.1, cF.2.2.1⟩ | with_reducible exact ⟨(cG _ _ _).1, (cG _ _ _).2.1, (cG _ _ _).2.2.1⟩)
        (first
          | (go_at_call 54; (with_reducible refine (rof_n xD sM').mono ?_); rintro e w3 ⟨v3, rfl, z3, hb3⟩; have X3 := XD.below hb3; have R3 := RD.below hb3; have cF := X3.open3; have cG := fun x y z => (X3.other3 hne x y z).open3; obtain ⟨cR0, cR1, cR2, fR0, fR1, fR2, sR⟩ := R3.open3; obtain ⟨a3, k3, rfl, -⟩ := z3.view)
          | fail)
      all_goals
        go_wp2_with fail
        obtain ⟨q0, q1, q2, -⟩ := (R3.set3 (.bool n') (.slice a3 (digs BB M').length k3) (.int .i64 E')).open3
        refine bodyPost_ret (v := .tuple #[.agg #[.bool n', .slice a3 (digs BB M').length k3, .int .i64 E'], .int .i64 0]) ?_ rfl ?_
        · simp [results, Tryd.results28, go_sem, q0, q1, q2]
        · exact ⟨_, rfl, z3.set3 R3 dcells _ _ _, hb0 ▸ below_set3b (BD.trans (hb3.mono (hb0 ▸ BD.size))) (by omega) _ _ _⟩
end Go.Proofs.YtecgimdgmilcbaaDoor
