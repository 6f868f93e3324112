/- round.whole by its contract. Conditions: the number is short; math/bits' table stands in its variable. -/
import Derived.Test.YtflkemcoomgoiaaDoorFl2
namespace Go.Proofs.YtflkemcoomgoiaaDoor
set_option maxRecDepth 100000
open Go.RowKit Go.ChangeShapes Go.WideShapes

theorem parts_size {M q : Nat} {E unit : Int} {h b : Bool} (hs : bitN M + (E - unit).toNat ≤ 65536) (hp : partsP M E unit = (q, h, b)) : bitN q ≤ 65536 := by
  unfold partsP at hp
  by_cases hle : unit ≤ E
  · rw [if_pos hle] at hp
    injection hp with z1 _
    rw [← z1]
    by_cases h0 : M = 0
    · rw [h0, Nat.zero_mul, bitN_zero]; omega
    · rw [bitN_shift h0]; omega
  · rw [if_neg hle] at hp
    injection hp with z1 _
    rw [← z1]
    exact Nat.le_trans (bitN_mono (Nat.div_le_self _ _)) (by omega)

set_option maxHeartbeats 4000000 in
theorem whole_n {w : World} {v : Value} {n more ix : Bool} {M q : Nat} {E dir unit : Int} (hv : RdN w v (digs BB M)) (hT : Tab w) (sM : bitN M ≤ 60000) (e1 : E.natAbs ≤ 4294967296) (e2 : unit.natAbs ≤ 4294967296) (hs : bitN M + (E - unit).toNat ≤ 65536) (hw : wholeP n M E more dir unit = (q, ix)) :
    Calls Tryd.prog 39 #[.agg #[.bool n, v, .int .i64 E], .bool more, .int .i64 dir, .int .i64 unit] w (fun e w' => ∃ v, e = .returned (.tuple #[v, .bool ix]) ∧ RdN w' v (digs BB q) ∧ Below w.heap.size w w') := by
  obtain ⟨q0, h, b, hp⟩ : ∃ q0 h b, partsP M E unit = (q0, h, b) := ⟨_, _, _, rfl⟩
  unfold wholeP at hw
  rw [hp] at hw
  simp only at hw
  have sq := parts_size hs hp
  obtain ⟨av, kv, rfl, -⟩ := hv.view
  have PT := Lib.hid (fun w v (h : RdN w v (digs BB M)) (hT : Tab w) => parts_n (n := n) h hT sM e1 e2 hs hp)
  obtain ⟨od, hod⟩ : ∃ x, decide (q0 % 2 = 1) = x := ⟨_, rfl⟩
  have OD := Lib.hid (fun w v (h : RdN w v (digs BB q0)) => odd_n (h.num (by omega)))
  rw [hod] at OD hw
  obtain ⟨bb, hbb⟩ : ∃ x, (b || more) = x := ⟨_, rfl⟩
  rw [hbb] at hw
  obtain ⟨a, ha⟩ : ∃ x, awayB dir n od h bb = x := ⟨_, rfl⟩
  have AW := Lib.hid (fun w => away_n (w := w) (dir := dir) (neg := n) (odd := od) (half := h) (below := bb))
  rw [ha] at AW hw
  have AD := Lib.hid (fun w v u (h : RdN w v (digs BB q0)) (k : RdN w u (digs BB 1)) => add_n (h.num (by omega)) (k.num (by rw [bitN_one]; omega)) (rfl : q0 + 1 = q0 + 1))
  clear hp hod ha hs e1 e2 sM sq
  injection hw with z1 z2
  subst z1 z2
  cases a
  all_goals simp only [Bool.false_eq_true, if_false, if_true, Nat.add_zero]
  all_goals cases b
  all_goals first | (rw [Bool.false_or] at hbb; subst hbb) | (rw [Bool.true_or] at hbb; subst hbb)
  all_goals cases h
  all_goals first | rw [Bool.false_or] | rw [Bool.true_or]
  all_goals
    go_enter Tryd.func39, Tryd.ntmps39
    go_upto_region 3 with
    (first
      | (go_at_call 78; (with_reducible refine (PT.out _ _ (hv.below (below_alloc _ _)) (hT.below (below_alloc _ _))).mono ?_); rintro e w1 ⟨vq1, rfl, q1, hb1⟩; have B1 := (below_alloc _ _).trans (hb1.mono (below_alloc _ _).size); have m1 := ((hv.below (below_alloc _ _))).below hb1; have T1 := ((hT.below (below_alloc _ _))).below hb1; have P1 := ((blk_new)).below hb1; obtain ⟨cP0_1, cP1_1, cP2_1, fP0_1, fP1_1, fP2_1, sP_1⟩ := P1.open3; obtain ⟨aq1, kq1, rfl, -⟩ := q1.view; try simp only [List.length_nil] at q1)
      | fail)
    have hAD : Below w1.heap.size w1 w1.drew := below_drewN (Below.refl _ _) 1
    have q5 := q1.below hAD; have P5 := P1.below hAD; have B5 := B1.trans (hAD.mono B1.size); have T5 := T1.below hAD
    obtain ⟨cP0_5, cP1_5, cP2_5, fP0_5, fP1_5, fP2_5, sP_5⟩ := P5.open3
    go_region_held3 (fun w' => w'.cell? ⟨w.heap.size, 0, none⟩ = some (.bool n) ∧ w'.cell? ⟨w.heap.size, 1, none⟩ = some (.slice av (digs BB M).length kv) ∧ w'.cell? ⟨w.heap.size, 2, none⟩ = some (.int .i64 E)) (with_reducible exact ⟨cP0_5, cP1_5, cP2_5⟩)
    (first
      | (go_at_call 80; (with_reducible refine (OD.out _ _ q5).mono ?_); rintro e w6 ⟨rfl, rfl⟩)
      | (go_at_call 79; (with_reducible refine (AW.out _).mono ?_); rintro e w7 ⟨rfl, rfl⟩)
      | fail)
    all_goals
      go_wp2_with
      (first
        | (go_at_call 66; (with_reducible refine (of_1).mono ?_); rintro e w6 ⟨vo6, rfl, o6, hb6⟩; have B6 := B5.trans (hb6.mono B5.size); have q6 := q5.below hb6; have T6 := T5.below hb6; clear q5 T5; obtain ⟨ao6, ko6, rfl, -⟩ := o6.view; try simp only [List.length_nil] at o6)
        | (go_at_call 81; (with_reducible refine (AD.out _ _ _ q6 o6).mono ?_); rintro e w7 ⟨vs7, rfl, s7, hb7⟩; have B7 := B6.trans (hb7.mono B6.size); have q7 := q6.below hb7; have T7 := T6.below hb7; have o7 := o6.below hb7; clear q6 T6 o6; obtain ⟨as7, ks7, rfl, -⟩ := s7.view; try simp only [List.length_nil] at s7)
        | fail)
      all_goals
        go_ret2
        exact ⟨_, rfl, by assumption, by assumption⟩
end Go.Proofs.YtflkemcoomgoiaaDoor
