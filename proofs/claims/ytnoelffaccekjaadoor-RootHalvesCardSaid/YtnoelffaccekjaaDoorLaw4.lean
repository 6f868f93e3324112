/- What chapter 04's laws share: alive(). Conditions: math/bits' table stands in its variable. -/
import Derived.Test.YtnoelffaccekjaaDoorRefA
import Derived.Test.YtnoelffaccekjaaDoorRootA
namespace Go.Proofs.YtnoelffaccekjaaDoor
open Go.RowKit Go.ChangeShapes Go.WideShapes

set_option maxHeartbeats 800000 in
theorem alive4_any {w : World} (hT : Tab w) : Calls Tryd.prog 7 #[] w (fun e w' => e = .returned (.bool true) ∧ Below w.heap.size w w') := by
  have h30 : 30 < BB := by decide
  have h81 : 81 < BB := by decide
  have H1 := Lib.hid (fun w v (h : Num w v 30) (hT : Tab w) => show Calls Tryd.prog 8 #[v, .int .i64 3] w (RootZ w 3 false) from root_n (K := 3) h hT (by decide) (by decide) (by decide) ⟨by decide, by decide⟩ (by decide))
  have H2 := Lib.hid (fun w v (h : Num w v 81) (hT : Tab w) => show Calls Tryd.prog 19 #[v, .int .i64 2] w (RootZ w 3 true) from halves_n (K := 2) h hT (by decide) (by decide) ⟨by decide, by decide⟩ (by decide))
  have H3 := Lib.hid (fun w => show Calls Tryd.prog 8 #[.slice none 0 0, .int .i64 0] w _ from root_arg (Num.nil w) (by decide))
  have HS3 := Lib.hid (fun w v u (h : RdN w v (digs BB 3)) (k : RdN w u [3]) => same_any h k)
  rw [digs_small (by decide) (by decide), decide_eq_true rfl] at HS3
  go_enter Tryd.func7, Tryd.ntmps7
  go_wp2_with
  (first
    | (go_at_call 8; (with_reducible refine (H1.out _ _ (RdN.num1 ?_ h30) (hT.below (below_alloc _ _))).mono ?_); (exact rd_one (heap_alloc_new _ _) trivial); rintro e w1 ⟨vx1, rfl, x1, hb1⟩; have hb1' := (below_a hb1); have B1 := hb1'; have T1 := hT.below hb1'; clear hT)
    | (go_at_call 19; (with_reducible refine (H2.out _ _ (RdN.num1 ?_ h81) (T1.below (below_alloc _ _))).mono ?_); (exact rd_one (heap_alloc_new _ _) trivial); rintro e w2 ⟨vy2, rfl, y2, hb2⟩; have hb2' := (below_a hb2); have B2 := B1.trans (hb2'.mono B1.size); have T2 := T1.below hb2'; have x2 := x1.below hb2'; clear T1 x1)
    | (go_at_call 8; (with_reducible refine (H3.out _).mono ?_); rintro e w3 ⟨rfl, hb3⟩; have B3 := B2.trans (hb3.mono B2.size); have T3 := T2.below hb3; have x3 := x2.below hb3; have y3 := y2.below hb3; clear T2 x2 y2)
    | (go_at_call 22; (with_reducible refine (HS3.out _ _ _ (x3.below (below_alloc _ _)) ?_).mono ?_); (exact rd_one (heap_alloc_new _ _) trivial); rintro e w4 ⟨rfl, hb4⟩; have hb4' := (below_a hb4); have B4 := B3.trans (hb4'.mono B3.size); have T4 := T3.below hb4'; have x4 := x3.below hb4'; have y4 := y3.below hb4'; clear T3 x3 y3)
    | (go_at_call 22; (with_reducible refine (HS3.out _ _ _ (y4.below (below_alloc _ _)) ?_).mono ?_); (exact rd_one (heap_alloc_new _ _) trivial); rintro e w5 ⟨rfl, hb5⟩; have hb5' := (below_a hb5); have B5 := B4.trans (hb5'.mono B4.size); have T5 := T4.below hb5'; have x5 := x4.below hb5'; have y5 := y4.below hb5'; clear T4 x4 y4)
    | fail)
  go_ret
  exact ⟨rfl, by assumption⟩
end Go.Proofs.YtnoelffaccekjaaDoor
