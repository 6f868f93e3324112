/- round.To at one and beside one. Conditions: math/bits' table stands in its variable. -/
import Derived.Test.YtflkemcoomgoiaaDoorRndG
import Derived.Test.YtflkemcoomgoiaaDoorRefA
namespace Go.Proofs.YtflkemcoomgoiaaDoor
set_option maxRecDepth 100000
open Go.RowKit Go.ChangeShapes Go.WideShapes

theorem bitN_at {n k : Nat} (h1 : 2 ^ k ≤ n) (h2 : n < 2 ^ (k + 1)) : bitN n = k + 1 := by
  have a := lt_bitN.2 h1
  have b := bitN_le.2 h2
  omega
theorem bareD_at {n : Bool} {M m k : Nat} {E : Int} (h : M = 2 ^ k * (2 * m + 1)) (h1 : -2147483648 ≤ E) (h2 : E ≤ 2147483648) : bareD ⟨n, M, E⟩ = ⟨n, 2 * m + 1, E + k⟩ := by
  have h0 : M ≠ 0 := by rw [h]; exact Nat.mul_ne_zero (Nat.ne_of_gt (Nat.pow_pos (by omega))) (by omega)
  rw [bareD_pos (show (⟨n, M, E⟩ : Dn).m ≠ 0 from h0)]
  simp only
  rw [low2_uniq h, odd_eq h, show cutE E = E by unfold cutE; omega]
theorem makeQ_at {n : Bool} {M m k : Nat} {E : Int} (h : M = 2 ^ k * (2 * m + 1)) (h1 : -1073741824 ≤ E) (h2 : E + k ≤ 1073741824) : makeQ ⟨n, M, E⟩ = (n, 2 * m + 1, E + k, 0) := by
  unfold makeQ
  rw [bareD_at h (by omega) (by omega)]
  simp only
  rw [if_pos (by unfold fitsE; rw [decide_eq_true (by omega), decide_eq_true (by omega)]; rfl)]

theorem b1 : bitN 1 = 0 + 1 := bitN_at (by decide) (by decide)
theorem b52 : bitN 4503599627370497 = 52 + 1 := bitN_at (by decide) (by decide)
theorem b53 : bitN 9007199254740991 = 52 + 1 := bitN_at (by decide) (by decide)
theorem b54 : bitN 18014398509481983 = 53 + 1 := bitN_at (by decide) (by decide)
theorem t1 (n : Bool) : topD ⟨n, 1, 0⟩ = 0 := by unfold topD; simp only [b1]; rfl
theorem t52 (n : Bool) : topD ⟨n, 4503599627370497, -52⟩ = 0 := by unfold topD; simp only [b52]; rfl
theorem t53 (n : Bool) : topD ⟨n, 9007199254740991, -53⟩ = -1 := by unfold topD; simp only [b53]; rfl
theorem t54 (n : Bool) : topD ⟨n, 18014398509481983, -54⟩ = -1 := by unfold topD; simp only [b54]; rfl
theorem x1 (n : Bool) : exactB n 1 0 = (signedB 4607182418800017408 n, true) := by unfold exactB; rw [t1]; cases n <;> rfl
theorem x52 (n : Bool) : exactB n 4503599627370497 (-52) = (signedB 4607182418800017409 n, true) := by unfold exactB; rw [t52]; cases n <;> rfl
theorem x53 (n : Bool) : exactB n 9007199254740991 (-53) = (signedB 4607182418800017407 n, true) := by unfold exactB; rw [t53]; cases n <;> rfl

theorem dir_cases {dir : Int} (d0 : 0 ≤ dir) (d3 : dir ≤ 3) : dir = 0 ∨ dir = 1 ∨ dir = 2 ∨ dir = 3 := by omega

/-- The size just above one, where rounded. -/
def moreB (dir : Int) (neg : Bool) : Nat := if upB dir neg then 4607182418800017409 else 4607182418800017408
def lessB (dir : Int) (neg : Bool) : Nat := if decide (dir = 0) || upB dir neg then 4607182418800017408 else 4607182418800017407

theorem whole1 {dir : Int} {n : Bool} (d0 : 0 ≤ dir) (d3 : dir ≤ 3) : wholeP n 1 0 true dir (-52) = (if upB dir n then 4503599627370497 else 4503599627370496, true) := by
  rcases dir_cases d0 d3 with rfl | rfl | rfl | rfl <;> cases n <;> rfl
theorem whole54 {dir : Int} {n : Bool} (d0 : 0 ≤ dir) (d3 : dir ≤ 3) : wholeP n 18014398509481983 (-54) true dir (-53) = (if decide (dir = 0) || upB dir n then 9007199254740992 else 9007199254740991, true) := by
  rcases dir_cases d0 d3 with rfl | rfl | rfl | rfl <;> cases n <;> rfl
end Go.Proofs.YtflkemcoomgoiaaDoor

/- round.To at one and just below, by contract; bound.Result. Conditions: math/bits' table stands in its variable. -/
namespace Go.Proofs.YtflkemcoomgoiaaDoor
set_option maxRecDepth 100000
open Go.RowKit Go.ChangeShapes Go.WideShapes

theorem To_one {w : World} {v : Value} {neg : Bool} {dir : Int} (h : Num w v 1) (hT : Tab w) (d0 : 0 ≤ dir) (d3 : dir ≤ 3) :
    Calls Tryd.prog 18 #[.agg #[.bool neg, v, .int .i64 0], .bool true, .int .i64 dir] w (fun e w' => e = .returned (.tuple #[L64 (signedB (moreB dir neg) neg), .int .u8 1, .int .i64 0]) ∧ Below w.heap.size w w') := by
  have hw := whole1 (n := neg) d0 d3
  unfold moreB
  obtain ⟨u, hu⟩ : ∃ u, upB dir neg = u := ⟨_, rfl⟩
  rw [hu] at hw ⊢
  cases u
  · exact To_more (M1 := 1) (E1 := 0) (q := 4503599627370496) (M2 := 1) (E2 := 0) (top := 0) (u := -52) (c := 4607182418800017408) h hT (by decide) (by decide) (bareD_at (k := 0) (m := 0) rfl (by decide) (by decide)) rfl d0 d3 rfl (by rw [b1]; decide) (t1 neg) (by decide) (by decide) rfl hw
      (by rw [show bitN 4503599627370496 = 52 + 1 from bitN_at (by decide) (by decide)]; decide) (makeQ_at (k := 52) (m := 0) (by decide) (by decide) (by decide)) rfl (by rw [b1]; decide) ⟨by decide, by decide⟩ (by rw [t1]; decide) (by rw [t1]; decide) (by decide) (x1 neg)
  · exact To_more (M1 := 1) (E1 := 0) (q := 4503599627370497) (M2 := 4503599627370497) (E2 := -52) (top := 0) (u := -52) (c := 4607182418800017409) h hT (by decide) (by decide) (bareD_at (k := 0) (m := 0) rfl (by decide) (by decide)) rfl d0 d3 rfl (by rw [b1]; decide) (t1 neg) (by decide) (by decide) rfl hw
      (by rw [b52]; decide) (makeQ_at (k := 0) (m := 2251799813685248) (by decide) (by decide) (by decide)) rfl (by rw [b52]; decide) ⟨by decide, by decide⟩ (by rw [t52]; decide) (by rw [t52]; decide) (by decide) (x52 neg)

theorem To_less {w : World} {v : Value} {neg : Bool} {dir : Int} (h : Num w v 18014398509481983) (hT : Tab w) (d0 : 0 ≤ dir) (d3 : dir ≤ 3) :
    Calls Tryd.prog 18 #[.agg #[.bool neg, v, .int .i64 (-54)], .bool true, .int .i64 dir] w (fun e w' => e = .returned (.tuple #[L64 (signedB (lessB dir neg) neg), .int .u8 1, .int .i64 0]) ∧ Below w.heap.size w w') := by
  have hw := whole54 (n := neg) d0 d3
  unfold lessB
  obtain ⟨u, hu⟩ : ∃ u, (decide (dir = 0) || upB dir neg) = u := ⟨_, rfl⟩
  rw [hu] at hw ⊢
  cases u
  · exact To_more (M1 := 18014398509481983) (E1 := -54) (q := 9007199254740991) (M2 := 9007199254740991) (E2 := -53) (top := -1) (u := -53) (c := 4607182418800017407) h hT (by decide) (by decide) (bareD_at (k := 0) (m := 9007199254740991) (by decide) (by decide) (by decide)) rfl d0 d3 rfl (by rw [b54]; decide) (t54 neg) (by decide) (by decide) rfl hw
      (by rw [b53]; decide) (makeQ_at (k := 0) (m := 4503599627370495) (by decide) (by decide) (by decide)) rfl (by rw [b53]; decide) ⟨by decide, by decide⟩ (by rw [t53]; decide) (by rw [t53]; decide) (by decide) (x53 neg)
  · exact To_more (M1 := 18014398509481983) (E1 := -54) (q := 9007199254740992) (M2 := 1) (E2 := 0) (top := -1) (u := -53) (c := 4607182418800017408) h hT (by decide) (by decide) (bareD_at (k := 0) (m := 9007199254740991) (by decide) (by decide) (by decide)) rfl d0 d3 rfl (by rw [b54]; decide) (t54 neg) (by decide) (by decide) rfl hw
      (by rw [show bitN 9007199254740992 = 53 + 1 from bitN_at (by decide) (by decide)]; decide) (makeQ_at (k := 53) (m := 0) (by decide) (by decide) (by decide)) rfl (by rw [b1]; decide) ⟨by decide, by decide⟩ (by rw [t1]; decide) (by rw [t1]; decide) (by decide) (x1 neg)
end Go.Proofs.YtflkemcoomgoiaaDoor

/- bound.Result by its contract. Conditions: math/bits' table stands in its variable. -/
namespace Go.Proofs.YtflkemcoomgoiaaDoor
set_option maxRecDepth 100000
open Go.RowKit Go.ChangeShapes Go.WideShapes

theorem lit1 {w : World} {T : TypeId} {o : Obj} : Num ((w.alloc (.cells #[.int .u64 1] T (0, 0))).alloc o) (.slice (some ⟨w.heap.size, 0, none⟩) 1 1) 1 := by
  have h : RdN (w.alloc (.cells #[.int .u64 ((1 : Nat) : Int)] T (0, 0))) (.slice (some ⟨w.heap.size, 0, none⟩) 1 1) [1] := rd_one (heap_alloc_new _ _) trivial
  exact (RdN.num1 h (by decide)).below (below_alloc _ _)
theorem lit54 {w : World} {T : TypeId} {o o' : Obj} : Num (((w.alloc o).alloc o').alloc (.cells #[.int .u64 18014398509481983] T (0, 0))) (.slice (some ⟨w.heap.size + 1 + 1, 0, none⟩) 1 1) 18014398509481983 := by
  have h : RdN (((w.alloc o).alloc o').alloc (.cells #[.int .u64 ((18014398509481983 : Nat) : Int)] T (0, 0))) (.slice (some ⟨w.heap.size + 1 + 1, 0, none⟩) 1 1) [18014398509481983] := rd_one (heap_new3 _ _ _ _) trivial
  exact RdN.num1 h (by decide)

def resB (cls : Int) (neg : Bool) (dir : Int) : Nat × Int × Bool :=
  if dir < 0 ∨ 3 < dir then (0, 0, false) else if cls = 1 then (overB neg dir, 5, true) else if cls = 2 then (underB neg dir, 3, true)
  else if cls = 3 then (signedB (moreB dir neg) neg, 1, true) else if cls = 4 then (signedB (lessB dir neg) neg, 1, true) else (0, 0, false)

set_option maxHeartbeats 1000000 in
theorem Result_n {w : World} {cls dir f : Int} {neg ok : Bool} {b : Nat} (hT : Tab w) (hr : resB cls neg dir = (b, f, ok)) :
    Calls Tryd.prog 12 #[.int .i64 cls, .bool neg, .int .i64 dir] w (fun e w' => e = .returned (.tuple #[L64 b, .int .u8 f, .bool ok]) ∧ Below w.heap.size w w') := by
  unfold resB at hr
  by_cases hd : dir < 0
  · rw [if_pos (.inl hd)] at hr
    injection hr with z1 z2; injection z2 with z2 z3
    subst z1 z2 z3
    have d1 : decide (dir < 0) = true := decide_eq_true hd
    go_enter Tryd.func12, Tryd.ntmps12
    go_wp2
    all_goals
      go_ret3
      exact ⟨rfl, Below.refl _ _⟩
  by_cases hd3 : 3 < dir
  · rw [if_pos (.inr hd3)] at hr
    injection hr with z1 z2; injection z2 with z2 z3
    subst z1 z2 z3
    have d1 : decide (dir < 0) = false := decide_eq_false hd
    have d2 : decide (3 < dir) = true := decide_eq_true hd3
    go_enter Tryd.func12, Tryd.ntmps12
    go_wp2
    all_goals
      go_ret3
      exact ⟨rfl, Below.refl _ _⟩
  rw [if_neg (by omega)] at hr
  have d0 : 0 ≤ dir := by omega
  have d3 : dir ≤ 3 := by omega
  have e1 : decide (dir < 0) = false := decide_eq_false hd
  have e2 : decide (3 < dir) = false := decide_eq_false hd3
  clear hd hd3
  by_cases c1 : cls = 1
  · rw [if_pos c1] at hr
    injection hr with z1 z2; injection z2 with z2 z3
    subst z1 z2 z3 c1
    go_enter Tryd.func12, Tryd.ntmps12
    go_wp2_with (go_at_call 28; (with_reducible refine over_n.mono ?_); rintro e w1 ⟨rfl, rfl⟩)
    all_goals
      go_ret3
      exact ⟨rfl, below_2⟩
  rw [if_neg c1] at hr
  have n1 : (cls == 1) = false := beq_false_of_ne c1
  by_cases c2 : cls = 2
  · rw [if_pos c2] at hr
    injection hr with z1 z2; injection z2 with z2 z3
    subst z1 z2 z3 c2
    clear n1 c1
    go_enter Tryd.func12, Tryd.ntmps12
    go_wp2_with (go_at_call 29; (with_reducible refine under_n.mono ?_); rintro e w1 ⟨rfl, rfl⟩)
    all_goals
      go_ret3
      exact ⟨rfl, below_2⟩
  rw [if_neg c2] at hr
  have n2 : (cls == 2) = false := beq_false_of_ne c2
  by_cases c3 : cls = 3
  · rw [if_pos c3] at hr
    injection hr with z1 z2; injection z2 with z2 z3
    subst z1 z2 z3 c3
    clear n1 c1 n2 c2
    go_enter Tryd.func12, Tryd.ntmps12
    go_wp2_with (go_at_call 18; (with_reducible refine (To_one lit1 (hT.below below_2) d0 d3).mono ?_); rintro e w1 ⟨rfl, hb1⟩)
    all_goals
      go_ret3
      exact ⟨rfl, below_a (below_a hb1)⟩
  rw [if_neg c3] at hr
  have n3 : (cls == 3) = false := beq_false_of_ne c3
  by_cases c4 : cls = 4
  · rw [if_pos c4] at hr
    injection hr with z1 z2; injection z2 with z2 z3
    subst z1 z2 z3 c4
    clear n1 c1 n2 c2 n3 c3
    go_enter Tryd.func12, Tryd.ntmps12
    go_wp2_with (go_at_call 18; (with_reducible refine (To_less lit54 (hT.below below3) d0 d3).mono ?_); rintro e w1 ⟨rfl, hb1⟩)
    all_goals
      go_ret3
      exact ⟨rfl, below_a (below_a (below_a hb1))⟩
  rw [if_neg c4] at hr
  have n4 : (cls == 4) = false := beq_false_of_ne c4
  injection hr with z1 z2; injection z2 with z2 z3
  subst z1 z2 z3
  go_enter Tryd.func12, Tryd.ntmps12
  go_wp2
  all_goals
    go_ret3
    exact ⟨rfl, below_2⟩
end Go.Proofs.YtflkemcoomgoiaaDoor
