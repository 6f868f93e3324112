/- dyad.Of of -746; dyad.Minus of what can be told. Conditions: math/bits' table stands in its variable. -/
import Derived.Test.YtflkemcoomgoiaaDoorBd5
namespace Go.Proofs.YtflkemcoomgoiaaDoor
set_option maxRecDepth 100000
open Go.RowKit Go.ChangeShapes Go.WideShapes

theorem bare746 : bareD ⟨true, 746, 0⟩ = ⟨true, 373, 1⟩ := rfl
theorem rd_lit746 {w : World} {o : Obj} {T : TypeId} {fz : Nat × Nat} : RdN ((w.alloc o).alloc (.cells #[.int .u64 746] T fz)) (.slice (some ⟨w.heap.size + 1, 0, none⟩) 1 1) [746] := rd_lit2 (n := 746)
theorem of746 {w : World} (hT : Tab w) : Calls Tryd.prog 16 #[.int .i64 (-746)] w (fun e w' => ∃ v, e = .returned (.agg #[.bool true, v, .int .i64 1]) ∧ RdN w' v (digs BB 373) ∧ Below w.heap.size w w') := by
  have hX := Lib.hid (fun w v (h : RdN w v [746]) (hT : Tab w) => bare_d (neg := true) (E := 0) (h.num1 (by decide)) hT (by decide) (by decide) bare746)
  have hw : IntKind.u64.wrap (-IntKind.u64.wrap (-746)) = 746 := by rw [IntKind.wrap_u64, IntKind.wrap_u64]; decide
  go_enter Tryd.func16, Tryd.ntmps16
  go_wp2_with
  (first
    | (go_at_call 34; (with_reducible refine (hX.out _ _ (rd_lit746) (hT.below below_2)).mono ?_); rintro e w1 ⟨vd1, rfl, d1, hb1⟩; have B1 := below_2.trans (hb1.mono below_2.size); have m1 := ((rd_lit746)).below hb1; have T1 := ((hT.below below_2)).below hb1; have R1 := ((blk_a1)).below hb1; obtain ⟨cR0_1, cR1_1, cR2_1, fR0_1, fR1_1, fR2_1, sR_1⟩ := R1.open3; obtain ⟨ud1, rfl, d1⟩ := d1; obtain ⟨ad1, kd1, rfl, -⟩ := d1.view)
    | fail)
  obtain ⟨q0, q1, q2, -⟩ := (R1.set3 (.bool true) (.slice ad1 (digs BB 373).length kd1) (.int .i64 1)).open3
  refine bodyPost_ret (v := .agg #[.bool true, .slice ad1 (digs BB 373).length kd1, .int .i64 1]) ?_ rfl ?_
  · simp [results, Tryd.results16, go_sem, q0, q1, q2]
  · exact ⟨_, rfl, d1.set3 R1 dcells _ _ _, below_set3 B1 (Nat.le_refl _) _ _ _⟩

set_option maxHeartbeats 1000000 in
theorem Minus_ok {w : World} {v : Value} {neg n' : Bool} {M M' : Nat} {E E' : Int} (h : Num w v M) (hT : Tab w) (h1 : -9223372036854775808 ≤ E) (h2 : E ≤ 9223372036854775807) (e : bareD ⟨neg, M, E⟩ = ⟨n', M', E'⟩) (hf : fitsE E' = true) (o : M' % 2 = 1) (sM : bitN M' ≤ 2560000) :
    Calls Tryd.prog 27 #[.agg #[.bool neg, v, .int .i64 E]] w (fun e w' => ∃ v, e = .returned (.agg #[.bool (!n'), v, .int .i64 E']) ∧ RdN w' v (digs BB M') ∧ Below w.heap.size w w') := by
  obtain ⟨a, n, k, rfl⟩ := h.slice
  have rF : -1073741824 ≤ E' ∧ E' ≤ 1073741824 := by unfold fitsE at hf; simp at hf; exact hf
  have h0 : M' ≠ 0 := by omega
  have hsn : digs BB M' ≠ [] := fun e => h0 ((digs_nil_iff BB_two _).1 e)
  have hsi : ((digs BB M').length : Int) ≠ 0 := by have := List.length_pos_iff.2 hsn; omega
  have HB := Lib.hid (fun w v (h : Num w v M) (hT : Tab w) => bare_d h hT h1 h2 e)
  have BA := Lib.hid (fun w v (h : RdN w v (digs BB M')) (hT : Tab w) => Bare_ok (h.num sM) hT (by omega) (by omega) (bareD_odd' (neg := !n') (E := E') o (by omega) (by omega)) hf)
  clear e hf rF o sM hsn h0
  go_enter Tryd.func27, Tryd.ntmps27
  go_wp2_with
  (first
    | (go_at_call 34; (with_reducible refine (HB.out _ _ (h.below below_2) (hT.below below_2)).mono ?_); rintro e w1 ⟨vx1, rfl, x1, hb1⟩; have B1 := below_2.trans (hb1.mono below_2.size); have m1 := ((h.below below_2)).below hb1; have T1 := ((hT.below below_2)).below hb1; have P1 := ((blk_a1)).below hb1; have R1 := ((blk_a2)).below hb1; obtain ⟨cP0_1, cP1_1, cP2_1, fP0_1, fP1_1, fP2_1, sP_1⟩ := P1.open3; obtain ⟨cR0_1, cR1_1, cR2_1, fR0_1, fR1_1, fR2_1, sR_1⟩ := R1.open3; obtain ⟨ux1, rfl, x1⟩ := x1; obtain ⟨ax1, kx1, rfl, -⟩ := x1.view)
    | (go_at_call 51; (with_reducible refine (BA.out _ _ (x1.below (below_alloc _ _)) (T1.below (below_alloc _ _))).mono ?_); rintro e w2 ⟨vy2, rfl, y2, hb2⟩; have hb2' := (below_a hb2); have B2 := B1.trans (hb2'.mono B1.size); have m2 := m1.below hb2'; have T2 := T1.below hb2'; have P2 := P1.below hb2'; have R2 := R1.below hb2'; have x2 := x1.below hb2'; clear m1 T1 P1 R1 x1; have Q2 := blk_new.below hb2; clear cP0_1 cP1_1 cP2_1 fP0_1 fP1_1 fP2_1 sP_1; obtain ⟨cP0_2, cP1_2, cP2_2, fP0_2, fP1_2, fP2_2, sP_2⟩ := P2.open3; clear cR0_1 cR1_1 cR2_1 fR0_1 fR1_1 fR2_1 sR_1; obtain ⟨cR0_2, cR1_2, cR2_2, fR0_2, fR1_2, fR2_2, sR_2⟩ := R2.open3; obtain ⟨cQ0_2, cQ1_2, cQ2_2, fQ0_2, fQ1_2, fQ2_2, sQ_2⟩ := Q2.open3; obtain ⟨ay2, ky2, rfl, -⟩ := y2.view; try simp only [List.length_nil] at y2)
    | fail)
  refine bodyPost_ret (v := .agg #[.bool (!n'), .slice ax1 (digs BB M').length kx1, .int .i64 E']) ?_ rfl ?_
  · have q := (Blk.next (o := .cells #[.bool (!n'), .slice ay2 (digs BB M').length ky2, .int .i64 E'] 36 (0, 0)) (R2.set3 (.bool (!n')) (.slice ax1 (digs BB M').length kx1) (.int .i64 E'))).open3
    simp [results, Tryd.results27, go_sem, q.1, q.2.1, q.2.2.1]
  · exact ⟨_, rfl, (x2.set3 R2 dcells _ _ _).below (below_alloc _ _), bel_next (below_set3b B2 (by omega) _ _ _)⟩
end Go.Proofs.YtflkemcoomgoiaaDoor
