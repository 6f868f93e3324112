/- What chapter 10's laws share: alive(). Conditions: math/bits' table stands in its variable. -/
import Derived.Test.YtegpfmfobeigfaaDoorRat4
namespace Go.Proofs.YtegpfmfobeigfaaDoor
set_option maxRecDepth 100000
open Go.RowKit Go.ChangeShapes Go.WideShapes

theorem bare_2 : bareD ⟨false, 2, 0⟩ = ⟨false, 1, 1⟩ := rfl
theorem bare_1 : bareD ⟨false, 1, 1⟩ = ⟨false, 1, 1⟩ := rfl
theorem bare_10 : bareD ⟨false, 1, 0⟩ = ⟨false, 1, 0⟩ := rfl
theorem bare_0 : bareD ⟨false, 0, 0⟩ = ⟨false, 0, 0⟩ := rfl
theorem bare_1000 : bareD ⟨false, 1000, 0⟩ = ⟨false, 125, 3⟩ := rfl
theorem bare_125 : bareD ⟨false, 125, 3⟩ = ⟨false, 125, 3⟩ := rfl
theorem alive_cmp : cmpM ⟨false, 1, 10⟩ ⟨false, 125, 3⟩ = 1 := by decide

set_option maxHeartbeats 800000 in
theorem alive10_any {w : World} (hT : Tab w) : Calls Tryd.prog 7 #[] w (fun e w' => e = .returned (.bool true) ∧ Below w.heap.size w w') := by
  have O2 := Lib.hid (fun w (hT : Tab w) => show Calls Tryd.prog 21 #[.int .i64 2] w _ from Of_n (n := 2) (by decide) hT bare_2)
  have O1000 := Lib.hid (fun w (hT : Tab w) => show Calls Tryd.prog 21 #[.int .i64 1000] w _ from Of_n (n := 1000) (by decide) hT bare_1000)
  have O0 := Lib.hid (fun w (hT : Tab w) => show Calls Tryd.prog 21 #[.int .i64 0] w _ from Of_n (n := 0) (by decide) hT bare_0)
  have C1 := Lib.hid (fun w v u (h : Num w v 1) (k : Num w u 125) (hT : Tab w) => show Calls Tryd.prog 17 #[.agg #[.bool false, v, .int .i64 1], .int .i64 10, .agg #[.bool false, u, .int .i64 3], .int .i64 1] w _ from
    rCmp_ok (m := 10) (k := 1) (k1 := 10) (P := 1) (Q := 125) (Ep := 10) (Eq := 3) (c := 1) h k hT (by decide) (by decide) (by decide) (by decide) bare_1 bare_125 (by decide) (by decide) (by decide) (by decide) (by decide) (by decide) (by decide) (by decide) (by decide) (by decide) (by decide) (by decide) (by decide) (by decide) (by decide) (by decide) (by decide) (by decide) (fun _ => alive_cmp) (fun h => absurd h (by decide)))
  have C2 := Lib.hid (fun w v u (h : Num w v 1) (k : Num w u 0) (hT : Tab w) => show Calls Tryd.prog 17 #[.agg #[.bool false, v, .int .i64 1], .int .i64 10, .agg #[.bool false, u, .int .i64 0], .int .i64 1] w _ from
    rCmp_arg (m := 10) (k := 1) h k hT (by decide) (by decide) (by decide) (by decide) bare_1 bare_0 rfl rfl (.inr (.inr (.inr (.inl (by decide))))))
  have s1 : bitN 1 ≤ 2560000 := by rw [bitN_one]; omega
  have s125 : bitN 125 ≤ 2560000 := by decide
  have s0 : bitN 0 ≤ 2560000 := by decide
  go_enter Tryd.func7, Tryd.ntmps7
  go_wp2_with
  (first
    | (go_at_call 21; (with_reducible refine (O2.out _ hT).mono ?_); rintro e w1 ⟨vx1, rfl, x1, hb1⟩; have B1 := hb1; have T1 := hT.below hb1; clear hT; obtain ⟨ux1, rfl, x1⟩ := x1; obtain ⟨ax1, kx1, rfl, -⟩ := x1.view)
    | (go_at_call 21; (with_reducible refine (O1000.out _ T1).mono ?_); rintro e w2 ⟨vy2, rfl, y2, hb2⟩; have B2 := B1.trans (hb2.mono B1.size); have T2 := T1.below hb2; have x2 := x1.below hb2; clear T1 x1; obtain ⟨uy2, rfl, y2⟩ := y2; obtain ⟨ay2, ky2, rfl, -⟩ := y2.view)
    | (go_at_call 17; (with_reducible refine (C1.out _ _ _ (x2.num s1) (y2.num s125) T2).mono ?_); rintro e w3 ⟨rfl, hb3⟩; have B3 := B2.trans (hb3.mono B2.size); have T3 := T2.below hb3; have x3 := x2.below hb3; have y3 := y2.below hb3; clear T2 x2 y2)
    | (go_at_call 21; (with_reducible refine (O2.out _ T3).mono ?_); rintro e w4 ⟨vz4, rfl, z4, hb4⟩; have B4 := B3.trans (hb4.mono B3.size); have T4 := T3.below hb4; have x4 := x3.below hb4; have y4 := y3.below hb4; clear T3 x3 y3; obtain ⟨uz4, rfl, z4⟩ := z4; obtain ⟨az4, kz4, rfl, -⟩ := z4.view)
    | (go_at_call 21; (with_reducible refine (O0.out _ T4).mono ?_); rintro e w5 ⟨vo5, rfl, o5, hb5⟩; have B5 := B4.trans (hb5.mono B4.size); have T5 := T4.below hb5; have x5 := x4.below hb5; have y5 := y4.below hb5; have z5 := z4.below hb5; clear T4 x4 y4 z4; obtain ⟨uo5, rfl, o5⟩ := o5; obtain ⟨ao5, ko5, rfl, -⟩ := o5.view)
    | (go_at_call 17; (with_reducible refine (C2.out _ _ _ (z5.num s1) (o5.num s0) T5).mono ?_); rintro e w6 ⟨rfl, hb6⟩; have B6 := B5.trans (hb6.mono B5.size); have T6 := T5.below hb6; have x6 := x5.below hb6; have y6 := y5.below hb6; have z6 := z5.below hb6; have o6 := o5.below hb6; clear T5 x5 y5 z5 o5)
    | fail)
  all_goals
    go_ret
    exact ⟨rfl, by assumption⟩
end Go.Proofs.YtegpfmfobeigfaaDoor
