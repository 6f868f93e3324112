/- iv.can, iv.Right by their contracts. Conditions: the numbers are short; math/bits' table stands in its variable. -/
import Derived.Test.YtflkemcoomgoiaaDoorBdA
import Derived.Test.YtflkemcoomgoiaaDoorDyA
namespace Go.Proofs.YtflkemcoomgoiaaDoor
set_option maxRecDepth 100000
open Go.RowKit Go.ChangeShapes Go.WideShapes

theorem can_n {w : World} {v : Value} {neg r : Bool} {M : Nat} {E : Int} (h : Num w v M) (hT : Tab w) (h1 : -9223372036854775808 ≤ E) (h2 : E ≤ 9223372036854775807) (hr : fitsE (bareD ⟨neg, M, E⟩).e = r) :
    Calls Tryd.prog 50 #[.agg #[.bool neg, v, .int .i64 E]] w (fun e w' => e = .returned (.bool r) ∧ Below w.heap.size w w') := by
  obtain ⟨a, n, k, rfl⟩ := h.slice
  obtain ⟨⟨n', M', E'⟩, e⟩ : ∃ d, bareD ⟨neg, M, E⟩ = d := ⟨_, rfl⟩
  rw [e] at hr
  simp only at hr
  cases r
  · have BA := Lib.hid (fun w v (h : Num w v M) (hT : Tab w) => Bare_long h hT h1 h2 e hr)
    clear e hr
    go_enter Tryd.func50, Tryd.ntmps50
    go_wp2_with
    (first
      | (go_at_call 51; (with_reducible refine (BA.out _ _ (h.below (below_alloc _ _)) (hT.below (below_alloc _ _))).mono ?_); rintro e w1 ⟨rfl, hb1⟩; have B1 := (below_alloc _ _).trans (hb1.mono (below_alloc _ _).size); have m1 := ((h.below (below_alloc _ _))).below hb1; have T1 := ((hT.below (below_alloc _ _))).below hb1; have P1 := ((blk_new)).below hb1; obtain ⟨cP0_1, cP1_1, cP2_1, fP0_1, fP1_1, fP2_1, sP_1⟩ := P1.open3)
      | fail)
    all_goals
      go_ret
      exact ⟨rfl, B1.alloc B1.size _⟩
  · have BA := Lib.hid (fun w v (h : Num w v M) (hT : Tab w) => Bare_ok h hT h1 h2 e hr)
    clear e hr
    go_enter Tryd.func50, Tryd.ntmps50
    go_wp2_with
    (first
      | (go_at_call 51; (with_reducible refine (BA.out _ _ (h.below (below_alloc _ _)) (hT.below (below_alloc _ _))).mono ?_); rintro e w1 ⟨vx1, rfl, x1, hb1⟩; have B1 := (below_alloc _ _).trans (hb1.mono (below_alloc _ _).size); have m1 := ((h.below (below_alloc _ _))).below hb1; have T1 := ((hT.below (below_alloc _ _))).below hb1; have P1 := ((blk_new)).below hb1; obtain ⟨cP0_1, cP1_1, cP2_1, fP0_1, fP1_1, fP2_1, sP_1⟩ := P1.open3; obtain ⟨ax1, kx1, rfl, -⟩ := x1.view; try simp only [List.length_nil] at x1)
      | fail)
    all_goals
      go_ret
      exact ⟨rfl, B1.alloc B1.size _⟩

set_option maxHeartbeats 1000000 in
theorem Right_n {w : World} {v u : Value} {neg neg2 f1 f2 : Bool} {M M2 : Nat} {E E2 c : Int} (h : Num w v M) (h' : Num w u M2) (hT : Tab w) (h1 : -9223372036854775808 ≤ E) (h2 : E ≤ 9223372036854775807) (h3 : -9223372036854775808 ≤ E2) (h4 : E2 ≤ 9223372036854775807)
    (sM : bitN M ≤ 400000) (sM2 : bitN M2 ≤ 400000) (hf1 : fitsE (bareD ⟨neg, M, E⟩).e = f1) (hf2 : fitsE (bareD ⟨neg2, M2, E2⟩).e = f2) (hc : cmpD (bareD ⟨neg, M, E⟩) (bareD ⟨neg2, M2, E2⟩) = c) :
    Calls Tryd.prog 26 #[.agg #[.bool neg, v, .int .i64 E, .bool neg2, u, .int .i64 E2]] w (fun e w' => e = .returned (.bool (f1 && f2 && decide (c ≤ 0))) ∧ Below w.heap.size w w') := by
  obtain ⟨av, nv, kv, rfl⟩ := h.slice
  obtain ⟨au, nu, ku, rfl⟩ := h'.slice
  have C1 := Lib.hid (fun w v (h : Num w v M) (hT : Tab w) => can_n h hT h1 h2 hf1)
  have C2 := Lib.hid (fun w v (h : Num w v M2) (hT : Tab w) => can_n h hT h3 h4 hf2)
  have CC := Lib.hid (fun w v u (h : Num w v M) (k : Num w u M2) (hT : Tab w) => Cmp_n h k hT h1 h2 h3 h4 rfl rfl sM sM2 hc)
  obtain ⟨d, hd⟩ : ∃ d, decide (c ≤ 0) = d := ⟨_, rfl⟩
  rw [hd]
  clear hf1 hf2 hc
  cases f1 <;> cases f2
  all_goals
    go_enter Tryd.func26, Tryd.ntmps26
    go_wp2_with
    (first
      | (go_at_call 50; (with_reducible refine (C1.out _ _ (h.below (below_alloc _ _)) (hT.below (below_alloc _ _))).mono ?_); rintro e w1 ⟨rfl, hb1⟩; have B1 := (below_alloc _ _).trans (hb1.mono (below_alloc _ _).size); have m1 := ((h.below (below_alloc _ _))).below hb1; have g1 := ((h'.below (below_alloc _ _))).below hb1; have T1 := ((hT.below (below_alloc _ _))).below hb1; have P1 := ((blk_new)).below hb1; obtain ⟨cP0_1, cP1_1, cP2_1, cP3_1, cP4_1, cP5_1, fP0_1, fP1_1, fP2_1, fP3_1, fP4_1, fP5_1, sP_1⟩ := P1.open6)
      | (go_at_call 50; (with_reducible refine (C2.out _ _ g1 T1).mono ?_); rintro e w2 ⟨rfl, hb2⟩; have B2 := B1.trans (hb2.mono B1.size); have m2 := m1.below hb2; have g2 := g1.below hb2; have T2 := T1.below hb2; have P2 := P1.below hb2; clear m1 g1 T1 P1; clear cP0_1 cP1_1 cP2_1 cP3_1 cP4_1 cP5_1 fP0_1 fP1_1 fP2_1 fP3_1 fP4_1 fP5_1 sP_1; obtain ⟨cP0_2, cP1_2, cP2_2, cP3_2, cP4_2, cP5_2, fP0_2, fP1_2, fP2_2, fP3_2, fP4_2, fP5_2, sP_2⟩ := P2.open6)
      | (go_at_call 17; (with_reducible refine (CC.out _ _ _ m2 g2 T2).mono ?_); rintro e w3 ⟨rfl, hb3⟩; have B3 := B2.trans (hb3.mono B2.size); have m3 := m2.below hb3; have g3 := g2.below hb3; have T3 := T2.below hb3; have P3 := P2.below hb3; clear m2 g2 T2 P2; clear cP0_2 cP1_2 cP2_2 cP3_2 cP4_2 cP5_2 fP0_2 fP1_2 fP2_2 fP3_2 fP4_2 fP5_2 sP_2; obtain ⟨cP0_3, cP1_3, cP2_3, cP3_3, cP4_3, cP5_3, fP0_3, fP1_3, fP2_3, fP3_3, fP4_3, fP5_3, sP_3⟩ := P3.open6)
      | fail)
    all_goals
      go_ret
      exact ⟨rfl, by assumption⟩
end Go.Proofs.YtflkemcoomgoiaaDoor
