/- What chapter 03's laws share: same(), alive(). Conditions: the lists are short, math/bits' table stands in its variable. -/
import Derived.Test.YtmocoipenaodaaaDoorLawBase
import Derived.Test.YtmocoipenaodaaaDoorRef8
namespace Go.Proofs.YtmocoipenaodaaaDoor
open Go.RowKit Go.ChangeShapes Go.WideShapes

theorem same3_true {w : World} {v u : Value} {n : Nat} (h : RdN w v (digs BB n)) (k : RdD w u (digs DD n)) (hn : (digs DD n).length ≤ 1000000) :
    Calls Tryd.prog 14 #[v, u] w (fun e w' => e = .returned (.bool true) ∧ Below w.heap.size w w') := by
  have HO := rof_any k hn
  have HS := Lib.hid (fun w1 v1 u1 (h0 : RdN w1 v1 (digs BB n)) (h1 : RdN w1 u1 (digs BB n)) => same_any h0 h1)
  rw [decide_eq_true rfl] at HS
  go_enter Tryd.func14, Tryd.ntmps14
  go_wp2_with
  (first
    | (go_at_call 32; (with_reducible refine (HO).mono ?_); rintro e w1 ⟨vo1, rfl, o1, hb1⟩; have B1 := hb1; have a1 := h.below hb1; clear h)
    | (go_at_call 23; (with_reducible refine (HS.out _ _ _ a1 o1).mono ?_); rintro e w2 ⟨rfl, hb2⟩; have B2 := B1.trans (hb2.mono B1.size); have a2 := a1.below hb2; have o2 := o1.below hb2; clear a1 o1)
    | fail)
  go_ret
  exact ⟨rfl, B2⟩

theorem divR_17_5 : divR (val BB [17]) (val BB [5]) = (3, 2, 0) := by rw [val_one, val_one]; rfl
theorem divR_17_0 : divR (val BB [17]) (val BB []) = (0, 0, 1) := by rw [val_one]; rfl
theorem upR_17_5 : upR (val BB [17]) (val BB [5]) = (4, 0) := by rw [val_one, val_one]; rfl

set_option maxHeartbeats 800000 in
theorem alive3_any {w : World} (hT : Tab w) : Calls Tryd.prog 7 #[] w (fun e w' => e = .returned (.bool true) ∧ Below w.heap.size w w') := by
  have d17 : Dig BB [17] := Dig.cons (by decide) (Dig.nil _)
  have d5 : Dig BB [5] := Dig.cons (by decide) (Dig.nil _)
  have H1 := Lib.hid (fun w v u (h : RdN w v [17]) (k : RdN w u [5]) (hT : Tab w) => div_num h k d17 d5 (by simp) (by simp) hT)
  have H2 := Lib.hid (fun w v u (h : RdN w v [17]) (k : RdN w u [5]) (hT : Tab w) => up_num h k d17 d5 (by simp) (by simp) hT)
  have H3 := Lib.hid (fun w v (h : RdN w v [17]) (hT : Tab w) => div_num h (RdN.nil w) d17 (Dig.nil _) (by simp) (by simp) hT)
  rw [divR_17_5] at H1
  rw [upR_17_5] at H2
  rw [divR_17_0] at H3
  have HS := Lib.hid (fun n (h0 : n ≠ 0) (h1 : n < BB) w v u (h : RdN w v (digs BB n)) (k : RdN w u [n]) => same_any h k)
  have HS3 := Lib.hid (HS.out 3 (by decide) (by decide))
  have HS2 := Lib.hid (HS.out 2 (by decide) (by decide))
  have HS4 := Lib.hid (HS.out 4 (by decide) (by decide))
  clear HS
  rw [digs_small (by decide) (by decide), decide_eq_true rfl] at HS3 HS2 HS4
  go_enter Tryd.func7, Tryd.ntmps7
  go_wp2_with
  (first
    | (go_at_call 9; (with_reducible refine (H1.out _ _ _ ?_ ?_ (((hT.below (below_alloc _ _))).below (below_alloc _ _))).mono ?_); (exact (rd_one (heap_alloc_new _ _) trivial).below (below_alloc _ _)); (exact rd_one (heap_new2 _ _ _) trivial); rintro e w1 ⟨vq1, vr1, rfl, q1, r1, hb1⟩; have hb1' := (below_a (below_a hb1)); have B1 := hb1'; have T1 := hT.below hb1'; clear hT)
    | (go_at_call 10; (with_reducible refine (H2.out _ _ _ ?_ ?_ (((T1.below (below_alloc _ _))).below (below_alloc _ _))).mono ?_); (exact (rd_one (heap_alloc_new _ _) trivial).below (below_alloc _ _)); (exact rd_one (heap_new2 _ _ _) trivial); rintro e w2 ⟨vu2, rfl, u2, hb2⟩; have hb2' := (below_a (below_a hb2)); have B2 := B1.trans (hb2'.mono B1.size); have T2 := T1.below hb2'; have q2 := q1.below hb2'; have r2 := r1.below hb2'; clear T1 q1 r1)
    | (go_at_call 9; (with_reducible refine (H3.out _ _ ?_ (T2.below (below_alloc _ _))).mono ?_); (exact rd_one (heap_alloc_new _ _) trivial); rintro e w3 ⟨vx3, vy3, rfl, x3, y3, hb3⟩; have hb3' := (below_a hb3); have B3 := B2.trans (hb3'.mono B2.size); have T3 := T2.below hb3'; have q3 := q2.below hb3'; have r3 := r2.below hb3'; have u3 := u2.below hb3'; clear T2 q2 r2 u2)
    | (go_at_call 23; (with_reducible refine (HS3.out _ _ _ (q3.below (below_alloc _ _)) ?_).mono ?_); (exact rd_one (heap_alloc_new _ _) trivial); rintro e w4 ⟨rfl, hb4⟩; have hb4' := (below_a hb4); have B4 := B3.trans (hb4'.mono B3.size); have T4 := T3.below hb4'; have q4 := q3.below hb4'; have r4 := r3.below hb4'; have u4 := u3.below hb4'; have x4 := x3.below hb4'; have y4 := y3.below hb4'; clear T3 q3 r3 u3 x3 y3)
    | (go_at_call 23; (with_reducible refine (HS2.out _ _ _ (r4.below (below_alloc _ _)) ?_).mono ?_); (exact rd_one (heap_alloc_new _ _) trivial); rintro e w5 ⟨rfl, hb5⟩; have hb5' := (below_a hb5); have B5 := B4.trans (hb5'.mono B4.size); have T5 := T4.below hb5'; have q5 := q4.below hb5'; have r5 := r4.below hb5'; have u5 := u4.below hb5'; have x5 := x4.below hb5'; have y5 := y4.below hb5'; clear T4 q4 r4 u4 x4 y4)
    | (go_at_call 23; (with_reducible refine (HS4.out _ _ _ (u5.below (below_alloc _ _)) ?_).mono ?_); (exact rd_one (heap_alloc_new _ _) trivial); rintro e w6 ⟨rfl, hb6⟩; have hb6' := (below_a hb6); have B6 := B5.trans (hb6'.mono B5.size); have T6 := T5.below hb6'; have q6 := q5.below hb6'; have r6 := r5.below hb6'; have u6 := u5.below hb6'; have x6 := x5.below hb6'; have y6 := y5.below hb6'; clear T5 q5 r5 u5 x5 y5)
    | fail)
  go_ret
  exact ⟨rfl, B6⟩
end Go.Proofs.YtmocoipenaodaaaDoor
