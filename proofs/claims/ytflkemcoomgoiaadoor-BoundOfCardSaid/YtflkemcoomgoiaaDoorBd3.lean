/- bound.Result by its contract. Conditions: math/bits' table stands in its variable. -/
import Derived.Test.YtflkemcoomgoiaaDoorBd2
import Derived.Test.YtflkemcoomgoiaaDoorRefA
namespace Go.Proofs.YtflkemcoomgoiaaDoor
set_option maxRecDepth 100000
open Go.RowKit Go.ChangeShapes Go.WideShapes

theorem lit1 {w : World} {T : TypeId} {o : Obj} : Num ((w.alloc (.cells #[.int .u64 1] T (0, 0))).alloc o) (.slice (some ⟨w.heap.size, 0, none⟩) 1 1) 1 := by
  have h : RdN (w.alloc (.cells #[.int .u64 ((1 : Nat) : Int)] T (0, 0))) (.slice (some ⟨w.heap.size, 0, none⟩) 1 1) [1] := rd_one (heap_alloc_new _ _) trivial
  exact (RdN.num1 h (by decide)).below (below_alloc _ _)
theorem lit54 {w : World} {T : TypeId} {o o' : Obj} : Num (((w.alloc o).alloc o').alloc (.cells #[.int .u64 18014398509481983] T (0, 0))) (.slice (some ⟨w.heap.size + 1 + 1, 0, none⟩) 1 1) 18014398509481983 := by
  have h : RdN (((w.alloc o).alloc o').alloc (.cells #[.int .u64 ((18014398509481983 : Nat) : Int)] T (0, 0))) (.slice (some ⟨w.heap.size + 1 + 1, 0, none⟩) 1 1) [18014398509481983] := rd_one (heap_new3 _ _ _ _) trivial
  exact RdN.num1 h (by decide)

def resB (cls : Int) (neg : Bool) (dir : Int) : Nat × Int × Bool :=
  if dir < 0 ∨ 3 < dir then (0, 0, false) else if cls = 1 then (overB neg dir, 5, true) else if cls = 2 then (underB neg dir, 3, true)
  else if cls = 3 then (signedB (moreB dir neg) neg, 1, true) else if cls = 4 then (signedB (lessB dir neg) neg, 1, true) else (0, 0, false)

set_option maxHeartbeats 1000000 in
theorem Result_n {w : World} {cls dir f : Int} {neg ok : Bool} {b : Nat} (hT : Tab w) (hr : resB cls neg dir = (b, f, ok)) :
    Calls Tryd.prog 12 #[.int .i64 cls, .bool neg, .int .i64 dir] w (fun e w' => e = .returned (.tuple #[L64 b, .int .u8 f, .bool ok]) ∧ Below w.heap.size w w') := by
  unfold resB at hr
  by_cases hd : dir < 0
  · rw [if_pos (.inl hd)] at hr
    injection hr with z1 z2; injection z2 with z2 z3
    subst z1 z2 z3
    have d1 : decide (dir < 0) = true := decide_eq_true hd
    go_enter Tryd.func12, Tryd.ntmps12
    go_wp2
    all_goals
      go_ret3
      exact ⟨rfl, Below.refl _ _⟩
  by_cases hd3 : 3 < dir
  · rw [if_pos (.inr hd3)] at hr
    injection hr with z1 z2; injection z2 with z2 z3
    subst z1 z2 z3
    have d1 : decide (dir < 0) = false := decide_eq_false hd
    have d2 : decide (3 < dir) = true := decide_eq_true hd3
    go_enter Tryd.func12, Tryd.ntmps12
    go_wp2
    all_goals
      go_ret3
      exact ⟨rfl, Below.refl _ _⟩
  rw [if_neg (by omega)] at hr
  have d0 : 0 ≤ dir := by omega
  have d3 : dir ≤ 3 := by omega
  have e1 : decide (dir < 0) = false := decide_eq_false hd
  have e2 : decide (3 < dir) = false := decide_eq_false hd3
  clear hd hd3
  by_cases c1 : cls = 1
  · rw [if_pos c1] at hr
    injection hr with z1 z2; injection z2 with z2 z3
    subst z1 z2 z3 c1
    go_enter Tryd.func12, Tryd.ntmps12
    go_wp2_with (go_at_call 28; (with_reducible refine over_n.mono ?_); rintro e w1 ⟨rfl, rfl⟩)
    all_goals
      go_ret3
      exact ⟨rfl, below_2⟩
  rw [if_neg c1] at hr
  have n1 : (cls == 1) = false := beq_false_of_ne c1
  by_cases c2 : cls = 2
  · rw [if_pos c2] at hr
    injection hr with z1 z2; injection z2 with z2 z3
    subst z1 z2 z3 c2
    clear n1 c1
    go_enter Tryd.func12, Tryd.ntmps12
    go_wp2_with (go_at_call 29; (with_reducible refine under_n.mono ?_); rintro e w1 ⟨rfl, rfl⟩)
    all_goals
      go_ret3
      exact ⟨rfl, below_2⟩
  rw [if_neg c2] at hr
  have n2 : (cls == 2) = false := beq_false_of_ne c2
  by_cases c3 : cls = 3
  · rw [if_pos c3] at hr
    injection hr with z1 z2; injection z2 with z2 z3
    subst z1 z2 z3 c3
    clear n1 c1 n2 c2
    go_enter Tryd.func12, Tryd.ntmps12
    go_wp2_with (go_at_call 18; (with_reducible refine (To_one lit1 (hT.below below_2) d0 d3).mono ?_); rintro e w1 ⟨rfl, hb1⟩)
    all_goals
      go_ret3
      exact ⟨rfl, below_a (below_a hb1)⟩
  rw [if_neg c3] at hr
  have n3 : (cls == 3) = false := beq_false_of_ne c3
  by_cases c4 : cls = 4
  · rw [if_pos c4] at hr
    injection hr with z1 z2; injection z2 with z2 z3
    subst z1 z2 z3 c4
    clear n1 c1 n2 c2 n3 c3
    go_enter Tryd.func12, Tryd.ntmps12
    go_wp2_with (go_at_call 18; (with_reducible refine (To_less lit54 (hT.below below3) d0 d3).mono ?_); rintro e w1 ⟨rfl, hb1⟩)
    all_goals
      go_ret3
      exact ⟨rfl, below_a (below_a (below_a hb1))⟩
  rw [if_neg c4] at hr
  have n4 : (cls == 4) = false := beq_false_of_ne c4
  injection hr with z1 z2; injection z2 with z2 z3
  subst z1 z2 z3
  go_enter Tryd.func12, Tryd.ntmps12
  go_wp2
  all_goals
    go_ret3
    exact ⟨rfl, below_2⟩
end Go.Proofs.YtflkemcoomgoiaaDoor
