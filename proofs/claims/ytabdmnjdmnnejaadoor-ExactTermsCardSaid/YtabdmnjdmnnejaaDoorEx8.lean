/- planimeterlaw11.alive by its contract. Conditions: math/bits' table stands in its variable. -/
import Derived.Test.YtabdmnjdmnnejaaDoorEx7
import Derived.Test.YtabdmnjdmnnejaaDoorDyC
namespace Go.Proofs.YtabdmnjdmnnejaaDoor
set_option maxRecDepth 100000
open Go.RowKit Go.ChangeShapes Go.WideShapes
set_option linter.unusedVariables false

theorem cells33x {w : World} {b : Nat} {x y z : Value} (h : Blk w b #[x, y, z]) : w.cell? ⟨b, 0, none⟩ = some x ∧ w.cell? ⟨b, 1, none⟩ = some y ∧ w.cell? ⟨b, 2, none⟩ = some z := ⟨h.open3.1, h.open3.2.1, h.open3.2.2.1⟩
theorem pow932 {ok : Bool} {P : Nat} {F : Int} (h : PowR 9 0 3 ((2 : Nat) : Int) ok P F) : ok = true ∧ P = 27 ∧ F = 0 := by
  rcases h with ⟨h, -⟩ | ⟨-, rfl, -, -, r, f, h1, h2, h3⟩ | ⟨-, -, -, -, h⟩
  · exact absurd h (by decide)
  · have hr : r = 3 := pow_inj (k := 2) (by decide) (by rw [show ((2 : Nat) : Int).toNat = 2 from rfl] at h1; rw [h1])
    subst hr
    rcases h3.2 with ⟨-, h4⟩ | ⟨h4, -⟩
    · refine ⟨rfl, h4, ?_⟩
      have := h3.1
      omega
    · exact absurd h4 (by decide)
  · exact absurd (h 3 0 27 0 (by decide) (by decide) ⟨by decide, .inl ⟨by decide, by decide⟩⟩) (by decide)
theorem Power_932 {w : World} {v : Value} (h : RdN w v (digs BB 9)) (hT : Tab w) : Calls Tryd.prog 9 #[.agg #[.bool false, v, .int .i64 0], .agg #[.int .i64 3, .int .i64 2]] w (fun e w' => ∃ u, e = .returned (.tuple #[.agg #[.bool false, u, .int .i64 0], .bool true, .int .i64 0]) ∧ RdN w' u (digs BB 27) ∧ Below w.heap.size w w') := by
  refine (Power_ok (M := 9) (E := 0) (m := 3) (k := 2) (g := 1) (h.num (Nat.le_trans (bitN_le.2 (show 9 < 2 ^ 4 by decide)) (by omega))) hT (by decide) (by decide) (bareD_odd (by decide) (by decide) (by decide)) (by decide) (by decide) (Nat.le_trans (bitN_le.2 (show 9 < 2 ^ 4 by decide)) (by omega)) (by decide) (by decide) (by decide) (by decide) (by decide) (by decide) (by decide)).mono ?_
  rintro e w' ⟨ok, P, F, a, n, kk, rfl, hp, hr, hb⟩
  obtain ⟨rfl, rfl, rfl⟩ := pow932 hp
  exact ⟨_, rfl, hr, hb⟩

set_option maxHeartbeats 2000000 in
theorem alive11_any {w : World} (hT : Tab w) : Calls Tryd.prog 7 #[] w (fun e w' => e = .returned (.bool true) ∧ Below w.heap.size w w') := by
  have HO9 := Lib.hid (fun w (hT : Tab w) => show Calls Tryd.prog 20 #[.int .i64 9] w _ from Of_n (n := 9) (by decide) hT (show bareD ⟨false, 9, 0⟩ = ⟨false, 9, 0⟩ from bareD_odd (by decide) (by decide) (by decide)))
  have HO27 := Lib.hid (fun w (hT : Tab w) => show Calls Tryd.prog 20 #[.int .i64 27] w _ from Of_n (n := 27) (by decide) hT (show bareD ⟨false, 27, 0⟩ = ⟨false, 27, 0⟩ from bareD_odd (by decide) (by decide) (by decide)))
  have s9 : bitN 9 ≤ 4 := bitN_le.2 (by decide)
  have s27 : bitN 27 ≤ 5 := bitN_le.2 (by decide)
  have HPA : Hid (∀ (w : World) v, RdN w v (digs BB 9) → Tab w → Calls Tryd.prog 9 #[.agg #[.bool false, v, .int .i64 0], .agg #[.int .i64 3, .int .i64 0]] w _) := Lib.hid (fun w v h hT => Power_arg (M := 9) (E := 0) (n' := false) (h.num (by omega)) hT (by decide) (by decide) (bareD_odd (by decide) (by decide) (by decide)) (by omega) (by decide) (by decide) (by decide) (.inr (.inr (by decide))))
  have HC : Hid (∀ (w : World) v u, RdN w v (digs BB 27) → RdN w u (digs BB 27) → Tab w → Calls Tryd.prog 19 #[.agg #[.bool false, v, .int .i64 0], .agg #[.bool false, u, .int .i64 0]] w (fun e w' => e = .returned (.int .i64 0) ∧ Below w.heap.size w w')) := Lib.hid (fun w v u h k hT => Cmp_n (h.num (by omega)) (k.num (by omega)) hT (by decide) (by decide) (by decide) (by decide) (show bareD ⟨false, 27, 0⟩ = ⟨false, 27, 0⟩ from bareD_odd (by decide) (by decide) (by decide)) (show bareD ⟨false, 27, 0⟩ = ⟨false, 27, 0⟩ from bareD_odd (by decide) (by decide) (by decide)) (by omega) (by omega) (by decide))
  go_enter Tryd.func7, Tryd.ntmps7
  go_upto_region 3 with
  (first
    | (go_at_call 20; (with_reducible refine (HO9.out _ hT).mono ?_); rintro e w1 ⟨vx1, rfl, x1, hb1⟩; have B1 := hb1; have T1 := hT.below hb1; clear hT; obtain ⟨ux1, rfl, x1⟩ := x1; obtain ⟨ax1, kx1, rfl, -⟩ := x1.view)
    | (go_at_call 9; (with_reducible refine (Power_932 x1 T1).mono ?_); rintro e w2 ⟨vp, rfl, p2, hb2⟩; have B2 := B1.trans (hb2.mono B1.size); have T2 := T1.below hb2; have x2 := x1.below hb2; clear T1 x1; obtain ⟨ap2, kp2, rfl, -⟩ := p2.view; try simp only [List.length_nil] at p2)
    | (go_at_call 20; (with_reducible refine (HO9.out _ (T2.below (below_alloc _ _))).mono ?_); rintro e w3 ⟨vy3, rfl, y3, hb3⟩; have hb3' := (below_a hb3); have B3 := B2.trans (hb3'.mono B2.size); have T3 := T2.below hb3'; have x3 := x2.below hb3'; have p3 := p2.below hb3'; clear T2 x2 p2; have P3 := blk_new.below hb3; obtain ⟨cP0_3, cP1_3, cP2_3, fP0_3, fP1_3, fP2_3, sP_3⟩ := P3.open3; obtain ⟨uy3, rfl, y3⟩ := y3; obtain ⟨ay3, ky3, rfl, -⟩ := y3.view)
    | (go_at_call 9; (with_reducible refine (HPA.out _ _ y3 T3).mono ?_); rintro e w4 ⟨rfl, hb4⟩; have B4 := B3.trans (hb4.mono B3.size); have T4 := T3.below hb4; have x4 := x3.below hb4; have p4 := p3.below hb4; have P4 := P3.below hb4; have y4 := y3.below hb4; clear T3 x3 p3 P3 y3; clear cP0_3 cP1_3 cP2_3 fP0_3 fP1_3 fP2_3 sP_3; obtain ⟨cP0_4, cP1_4, cP2_4, fP0_4, fP1_4, fP2_4, sP_4⟩ := P4.open3)
    | fail)
  have P5 := P4.below (below_alloc w4 (.cells #[.bool false, .slice none 0 0, .int .i64 0] 32 (0, 0)))
  have p5 := p4.below (below_alloc w4 (.cells #[.bool false, .slice none 0 0, .int .i64 0] 32 (0, 0)))
  have T5 := T4.below (below_alloc w4 (.cells #[.bool false, .slice none 0 0, .int .i64 0] 32 (0, 0)))
  have B5 := below_right B4 (.cells #[.bool false, .slice none 0 0, .int .i64 0] 32 (0, 0))
  clear cP0_4 cP1_4 cP2_4 fP0_4 fP1_4 fP2_4 sP_4 P4 p4 T4 B4 hb4
  generalize w4.alloc (.cells #[.bool false, .slice none 0 0, .int .i64 0] 32 (0, 0)) = w5 at *
  have Dw : Below w5.heap.size w5 w5.drew := below_drewN (Below.refl _ _) 1
  have Pd := P5.below Dw; have pd := p5.below Dw; have Td := T5.below Dw; have Bd := B5.trans (Dw.mono B5.size)
  have zd := Lib.hid (cells33x Pd)
  clear P5 p5 T5 B5
  go_region_held3 (fun w' => w'.cell? ⟨w2.heap.size, 0, none⟩ = some (.bool false) ∧ w'.cell? ⟨w2.heap.size, 1, none⟩ = some (.slice ap2 (digs BB 27).length kp2) ∧ w'.cell? ⟨w2.heap.size, 2, none⟩ = some (.int .i64 0))
    (first | exact zd.out | exact z1.out | exact z2.out)
    (first
      | (go_at_call 20; (with_reducible refine (HO27.out _ Td).mono ?_); rintro e y1 ⟨va, rfl, ta1, hz1⟩; obtain ⟨ua, rfl, ta⟩ := ta1; obtain ⟨aa, ka, rfl, -⟩ := ta.view; have p1 := pd.below hz1; have T1 := Td.below hz1; have P1 := Pd.below hz1; have B1 := Bd.trans (hz1.mono Bd.size); have z1 := Lib.hid (cells33x P1))
      | (go_at_call 19; (with_reducible refine (HC.out _ _ _ p1 ta T1).mono ?_); rintro e y2 ⟨rfl, hz2⟩; have P2 := P1.below hz2; have B2 := B1.trans (hz2.mono B1.size); have z2 := Lib.hid (cells33x P2))
      | fail)
  all_goals
    go_wp2_with fail
    go_ret
    exact ⟨rfl, by assumption⟩
end Go.Proofs.YtabdmnjdmnnejaaDoor
