/- round.right by its contract, where more is told. Conditions: the dyad can be told and isn't nought; math/bits' table stands in its variable. -/
import Derived.Test.YtflkemcoomgoiaaDoorFl4
import Derived.Test.YtflkemcoomgoiaaDoorBlk
namespace Go.Proofs.YtflkemcoomgoiaaDoor
set_option maxRecDepth 100000
open Go.RowKit Go.ChangeShapes Go.WideShapes

set_option maxHeartbeats 2000000 in
theorem right_more {w : World} {v : Value} {neg n' : Bool} {M M' : Nat} {E E' dir : Int} (h : Num w v M) (hT : Tab w) (h1 : -9223372036854775808 ≤ E) (h2 : E ≤ 9223372036854775807) (e : bareD ⟨neg, M, E⟩ = ⟨n', M', E'⟩) (hf : fitsE E' = true) (d0 : 0 ≤ dir) (d3 : dir ≤ 3) (h0 : M' ≠ 0) :
    Calls Tryd.prog 37 #[.agg #[.bool neg, v, .int .i64 E], .bool true, .int .i64 dir] w (fun e w' => ∃ v, e = .returned (.tuple #[.agg #[.bool n', v, .int .i64 E'], .bool true]) ∧ RdN w' v (digs BB M') ∧ Below w.heap.size w w') := by
  obtain ⟨a, n, k, rfl⟩ := h.slice
  have BA := Lib.hid (fun w v (h : Num w v M) (hT : Tab w) => Bare_ok h hT h1 h2 e hf)
  have dd0 : decide (0 ≤ dir) = true := decide_eq_true d0
  have dd3 : decide (dir ≤ 3) = true := decide_eq_true d3
  have hsn : digs BB M' ≠ [] := fun e => h0 ((digs_nil_iff BB_two _).1 e)
  have hsi : ((digs BB M').length : Int) ≠ 0 := by have := List.length_pos_iff.2 hsn; omega
  have hsb : (((digs BB M').length : Int) == 0) = false := beq_false_of_ne hsi
  clear e hf d0 d3 h0 hsn
  go_enter Tryd.func37, Tryd.ntmps37
  go_upto_region 2 with
  (first
    | (go_at_call 51; (with_reducible refine (BA.out _ _ (h.below below_2) (hT.below below_2)).mono ?_); rintro e w1 ⟨vx1, rfl, x1, hb1⟩; have B1 := below_2.trans (hb1.mono below_2.size); have m1 := ((h.below below_2)).below hb1; have T1 := ((hT.below below_2)).below hb1; have P1 := ((blk_a1)).below hb1; have R1 := ((blk_a2)).below hb1; obtain ⟨cP0_1, cP1_1, cP2_1, fP0_1, fP1_1, fP2_1, sP_1⟩ := P1.open3; obtain ⟨cR0_1, cR1_1, cR2_1, fR0_1, fR1_1, fR2_1, sR_1⟩ := R1.open3; obtain ⟨ax1, kx1, rfl, -⟩ := x1.view; try simp only [List.length_nil] at x1)
    | fail)
  have P5 := P1.set3 (.bool n') (.slice ax1 (digs BB M').length kx1) (.int .i64 E')
  have R5 := R1.other3 (b' := w.heap.size) (by omega) (.bool n') (.slice ax1 (digs BB M').length kx1) (.int .i64 E')
  have x5 := x1.set3 P1 dcells (.bool n') (.slice ax1 (digs BB M').length kx1) (.int .i64 E')
  have B5 := below_set3b (b := w.heap.size) B1 (Nat.le_refl _) (.bool n') (.slice ax1 (digs BB M').length kx1) (.int .i64 E')
  clear cP0_1 cP1_1 cP2_1 fP0_1 fP1_1 fP2_1 sP_1 cR0_1 cR1_1 cR2_1 fR0_1 fR1_1 fR2_1 sR_1 P1 R1 x1 B1 T1 m1 hb1
  generalize ((w1.setCell ⟨w.heap.size, 0, none⟩ (.bool n')).setCell ⟨w.heap.size, 1, none⟩ (.slice ax1 (digs BB M').length kx1)).setCell ⟨w.heap.size, 2, none⟩ (.int .i64 E') = w5 at *
  have hAD : Below w5.heap.size w5 w5.drew := below_drewN (Below.refl _ _) 1
  have P6 := P5.below hAD
  obtain ⟨cP0_6, cP1_6, cP2_6, fP0_6, fP1_6, fP2_6, sP_6⟩ := P6.open3
  obtain ⟨cR0_5, cR1_5, cR2_5, fR0_5, fR1_5, fR2_5, sR_5⟩ := R5.open3
  have cG := fun x y z => (Blk.dr (P5.other3 (b' := w.heap.size + 1) (by omega) x y z)).open3
  go_region_held3 (fun w' => w'.cell? ⟨w.heap.size, 0, none⟩ = some (.bool n') ∧ w'.cell? ⟨w.heap.size, 1, none⟩ = some (.slice ax1 (digs BB M').length kx1) ∧ w'.cell? ⟨w.heap.size, 2, none⟩ = some (.int .i64 E')) (first | with_reducible exact ⟨cP0_6, cP1_6, cP2_6⟩ | with_reducible exact ⟨(cG _ _ _).1, (cG _ _ _).2.1, (cG _ _ _).2.2.1⟩) (first | fail)
  all_goals
    go_wp2_with fail
    obtain ⟨q0, q1, q2, -⟩ := (Blk.dr (R5.set3 (.bool n') (.slice ax1 (digs BB M').length kx1) (.int .i64 E'))).open3
    refine bodyPost_ret (v := .tuple #[.agg #[.bool n', .slice ax1 (digs BB M').length kx1, .int .i64 E'], .bool true]) ?_ rfl ?_
    · simp [results, Tryd.results37, go_sem, q0, q1, q2]
    · exact ⟨_, rfl, (x5.set3 R5 dcells _ _ _).below (below_drewN (Below.refl _ _) 1), below_drewN (below_set3b B5 (by omega) _ _ _) 1⟩
end Go.Proofs.YtflkemcoomgoiaaDoor
