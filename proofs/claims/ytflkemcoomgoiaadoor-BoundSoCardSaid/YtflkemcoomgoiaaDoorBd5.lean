/- bound.Of where it is over; the law's example. Conditions: the numbers are short; math/bits' table stands in its variable. -/
import Derived.Test.YtflkemcoomgoiaaDoorBd4
import Derived.Deep.CutBlock
import Derived.Deep.RegionHeld3
namespace Go.Proofs.YtflkemcoomgoiaaDoor
set_option maxRecDepth 100000
open Go.RowKit Go.ChangeShapes Go.WideShapes

theorem bare710 : bareD ⟨false, 710, 0⟩ = ⟨false, 355, 1⟩ := rfl
theorem bare355 : bareD ⟨false, 355, 1⟩ = ⟨false, 355, 1⟩ := rfl
theorem bare800 : bareD ⟨false, 800, 0⟩ = ⟨false, 25, 5⟩ := rfl
theorem bare25 : bareD ⟨false, 25, 5⟩ = ⟨false, 25, 5⟩ := rfl
theorem bare801 : bareD ⟨false, 801, 0⟩ = ⟨false, 801, 0⟩ := rfl
theorem of710 {w : World} (hT : Tab w) : Calls Tryd.prog 16 #[.int .i64 710] w (fun e w' => ∃ v, e = .returned (.agg #[.bool false, v, .int .i64 1]) ∧ RdN w' v (digs BB 355) ∧ Below w.heap.size w w') := by
  have h := Of_n (w := w) (n := 710) (by decide) hT bare710
  refine Calls.mono h ?_
  rintro e w' ⟨v, rfl, ⟨u, rfl, hu⟩, hb⟩
  exact ⟨u, rfl, hu, hb⟩
theorem of800 {w : World} (hT : Tab w) : Calls Tryd.prog 16 #[.int .i64 800] w (fun e w' => ∃ v, e = .returned (.agg #[.bool false, v, .int .i64 5]) ∧ RdN w' v (digs BB 25) ∧ Below w.heap.size w w') := by
  have h := Of_n (w := w) (n := 800) (by decide) hT bare800
  refine Calls.mono h ?_
  rintro e w' ⟨v, rfl, ⟨u, rfl, hu⟩, hb⟩
  exact ⟨u, rfl, hu, hb⟩
theorem of801 {w : World} (hT : Tab w) : Calls Tryd.prog 16 #[.int .i64 801] w (fun e w' => ∃ v, e = .returned (.agg #[.bool false, v, .int .i64 0]) ∧ RdN w' v (digs BB 801) ∧ Below w.heap.size w w') := by
  have h := Of_n (w := w) (n := 801) (by decide) hT bare801
  refine Calls.mono h ?_
  rintro e w' ⟨v, rfl, ⟨u, rfl, hu⟩, hb⟩
  exact ⟨u, rfl, hu, hb⟩

theorem blk6a {w : World} {c : Array Value} {T : TypeId} {o1 o2 : Obj} : Blk (((w.alloc (.cells c T (0, 0))).alloc o1).alloc o2) w.heap.size c := blk3a

set_option maxHeartbeats 1000000 in
theorem OfOver {w : World} {v u : Value} {neg neg2 : Bool} {M M2 : Nat} {E E2 c c1 s : Int} (h : Num w v M) (h' : Num w u M2) (hT : Tab w) (h1 : -9223372036854775808 ≤ E) (h2 : E ≤ 9223372036854775807) (h3 : -9223372036854775808 ≤ E2) (h4 : E2 ≤ 9223372036854775807)
    (sM : bitN M ≤ 400000) (sM2 : bitN M2 ≤ 400000) (hf1 : fitsE (bareD ⟨neg, M, E⟩).e = true) (hf2 : fitsE (bareD ⟨neg2, M2, E2⟩).e = true) (hc : cmpD (bareD ⟨neg, M, E⟩) (bareD ⟨neg2, M2, E2⟩) = c) (hc0 : c ≤ 0) (hs : s ≠ 0) (hc1 : cmpD (bareD ⟨neg, M, E⟩) ⟨false, 355, 1⟩ = c1) (h10 : 0 ≤ c1) :
    Calls Tryd.prog 10 #[.agg #[.bool neg, v, .int .i64 E, .bool neg2, u, .int .i64 E2], .int .i64 s] w (fun e w' => e = .returned (.int .i64 1) ∧ Below w.heap.size w w') := by
  obtain ⟨av, nv, kv, rfl⟩ := h.slice
  obtain ⟨au, nu, ku, rfl⟩ := h'.slice
  have RT := Lib.hid (fun w v u (h : Num w v M) (k : Num w u M2) (hT : Tab w) => by
    have := Right_n h k hT h1 h2 h3 h4 sM sM2 hf1 hf2 hc
    rw [decide_eq_true hc0] at this; exact this)
  have CC := Lib.hid (fun w v u (h : Num w v M) (k : RdN w u (digs BB 355)) (hT : Tab w) => Cmp_n h (k.num (Nat.le_trans (bitN_le.2 (show 355 < 2 ^ 9 by decide)) (by decide))) hT h1 h2 (by decide) (by decide) rfl bare355 sM (Nat.le_trans (bitN_le.2 (show 355 < 2 ^ 9 by decide)) (by decide)) hc1)
  have ds : (s == 0) = false := beq_false_of_ne hs
  have dc : decide (0 ≤ c1) = true := decide_eq_true h10
  clear hf1 hf2 hc hc0 hs hc1 h10
  go_enter Tryd.func10, Tryd.ntmps10
  go_upto_region 4 with
  (first
    | (go_at_call 26; (with_reducible refine (RT.out _ _ _ (h.below below3) (h'.below below3) (hT.below below3)).mono ?_); rintro e w1 ⟨rfl, hb1⟩; have B1 := below3.trans (hb1.mono below3.size); have m1 := ((h.below below3)).below hb1; have g1 := ((h'.below below3)).below hb1; have T1 := ((hT.below below3)).below hb1; have P1 := ((blk3a)).below hb1; obtain ⟨cP0_1, cP1_1, cP2_1, cP3_1, cP4_1, cP5_1, fP0_1, fP1_1, fP2_1, fP3_1, fP4_1, fP5_1, sP_1⟩ := P1.open6)
    | fail)
  have hAD : Below w1.heap.size w1 w1.drew := below_drewN (Below.refl _ _) 1
  have m5 := m1.below hAD; have T5 := T1.below hAD; have P5 := P1.below hAD
  have B5 := B1.trans (hAD.mono B1.size)
  obtain ⟨cP0_5, cP1_5, cP2_5, cP3_5, cP4_5, cP5_5, fP0_5, fP1_5, fP2_5, fP3_5, fP4_5, fP5_5, sP_5⟩ := P5.open6
  go_region_held3 (fun w' => w'.cell? ⟨w.heap.size, 0, none⟩ = some (.bool neg) ∧ w'.cell? ⟨w.heap.size, 1, none⟩ = some (.slice av nv kv) ∧ w'.cell? ⟨w.heap.size, 2, none⟩ = some (.int .i64 E)) (first | with_reducible exact ⟨cP0_5, cP1_5, cP2_5⟩ | with_reducible exact ⟨cP0_6, cP1_6, cP2_6⟩ | with_reducible exact ⟨cP0_7, cP1_7, cP2_7⟩)
  (first
    | (go_at_call 16; (with_reducible refine (of710 T5).mono ?_); rintro e w6 ⟨vy6, rfl, y6, hb6⟩; have B6 := B5.trans (hb6.mono B5.size); have m6 := m5.below hb6; have T6 := T5.below hb6; have P6 := P5.below hb6; clear m5 T5 P5; obtain ⟨cP0_6, cP1_6, cP2_6, cP3_6, cP4_6, cP5_6, fP0_6, fP1_6, fP2_6, fP3_6, fP4_6, fP5_6, sP_6⟩ := P6.open6; obtain ⟨ay6, ky6, rfl, -⟩ := y6.view; try simp only [List.length_nil] at y6)
    | (go_at_call 17; (with_reducible refine (CC.out _ _ _ m6 y6 T6).mono ?_); rintro e w7 ⟨rfl, hb7⟩; have B7 := B6.trans (hb7.mono B6.size); have m7 := m6.below hb7; have T7 := T6.below hb7; have P7 := P6.below hb7; have y7 := y6.below hb7; clear m6 T6 P6 y6; clear cP0_6 cP1_6 cP2_6 cP3_6 cP4_6 cP5_6 fP0_6 fP1_6 fP2_6 fP3_6 fP4_6 fP5_6 sP_6; obtain ⟨cP0_7, cP1_7, cP2_7, cP3_7, cP4_7, cP5_7, fP0_7, fP1_7, fP2_7, fP3_7, fP4_7, fP5_7, sP_7⟩ := P7.open6)
    | fail)
  all_goals
    go_wp2_with fail
    go_ret
    exact ⟨rfl, by assumption⟩

theorem resAlive {w : World} (hT : Tab w) : Calls Tryd.prog 12 #[.int .i64 3, .bool false, .int .i64 2] w (fun e w' => e = .returned (.tuple #[.int .u64 4607182418800017409, .int .u8 1, .bool true]) ∧ Below w.heap.size w w') := Result_n (b := 4607182418800017409) (f := 1) (ok := true) hT rfl
theorem b25 : bitN 25 ≤ 400000 := Nat.le_trans (bitN_le.2 (show 25 < 2 ^ 9 by decide)) (by decide)
theorem b801 : bitN 801 ≤ 400000 := Nat.le_trans (bitN_le.2 (show 801 < 2 ^ 10 by decide)) (by decide)
theorem alive21_any {w : World} (hT : Tab w) : Calls Tryd.prog 6 #[] w (fun e w' => e = .returned (.bool true) ∧ Below w.heap.size w w') := by
  have OV := Lib.hid (fun w v u (h : RdN w v (digs BB 25)) (k : RdN w u (digs BB 801)) (hT : Tab w) => OfOver (neg := false) (neg2 := false) (E := 5) (E2 := 0) (c := -1) (c1 := 1) (s := 1) (h.num (Nat.le_trans b25 (by decide))) (k.num (Nat.le_trans b801 (by decide))) hT (by decide) (by decide) (by decide) (by decide) b25 b801 rfl rfl (by rw [bare25, bare801]; decide) (by decide) (by decide) (by rw [bare25]; decide) (by decide))
  have B0 : Below w.heap.size w w := Below.refl _ _
  go_enter Tryd.func6, Tryd.ntmps6
  go_wp2_with
  (first
    | (go_at_call 12; (with_reducible refine (resAlive hT).mono ?_); rintro e w1 ⟨rfl, hb1⟩; have B1 := B0.trans (hb1.mono B0.size); have T1 := hT.below hb1; clear hT)
    | (go_at_call 16; (with_reducible refine (of800 T1).mono ?_); rintro e w2 ⟨vx2, rfl, x2, hb2⟩; have B2 := B1.trans (hb2.mono B1.size); have T2 := T1.below hb2; clear T1; obtain ⟨ax2, kx2, rfl, -⟩ := x2.view; try simp only [List.length_nil] at x2)
    | (go_at_call 16; (with_reducible refine (of801 T2).mono ?_); rintro e w3 ⟨vy3, rfl, y3, hb3⟩; have B3 := B2.trans (hb3.mono B2.size); have T3 := T2.below hb3; have x3 := x2.below hb3; clear T2 x2; obtain ⟨ay3, ky3, rfl, -⟩ := y3.view; try simp only [List.length_nil] at y3)
    | (go_at_call 10; (with_reducible refine (OV.out _ _ _ x3 y3 T3).mono ?_); rintro e w4 ⟨rfl, hb4⟩; have B4 := B3.trans (hb4.mono B3.size); have T4 := T3.below hb4; have x4 := x3.below hb4; have y4 := y3.below hb4; clear T3 x3 y3)
    | fail)
  all_goals
    go_ret
    exact ⟨rfl, by assumption⟩
end Go.Proofs.YtflkemcoomgoiaaDoor
