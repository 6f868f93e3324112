/- exact.Is by its contract. Conditions: the numbers are short; math/bits' table stands in its variable. -/
import Derived.Test.YtabdmnjdmnnejaaDoorEx8
namespace Go.Proofs.YtabdmnjdmnnejaaDoor
set_option maxRecDepth 100000
open Go.RowKit Go.ChangeShapes Go.WideShapes
set_option linter.unusedVariables false

set_option maxHeartbeats 2000000 in
theorem Is_n {w : World} {v u : Value} {b0 b2 is : Bool} {A A2 : Nat} {e0 e2 m k c e : Int} (h : Num w v A) (h' : Num w u A2) (hT : Tab w) (m1 : -2147483648 ≤ m) (m2 : m ≤ 2147483648) (k1 : -2147483648 ≤ k) (k2 : k ≤ 2147483648)
    (HC0 : ∀ (w : World) (v u : Value), Num w v A → Num w u A2 → Tab w → Calls Tryd.prog 53 #[.agg #[.bool b0, v, .int .i64 e0], .int .i64 m, .agg #[.bool b2, u, .int .i64 e2], .int .i64 k] w (fun r w' => r = .returned (.tuple #[.int .i64 c, .int .i64 e]) ∧ Below w.heap.size w w')) (his : (decide (e = 0) && decide (c = 0)) = is) :
    Calls Tryd.prog 29 #[.agg #[.bool b0, v, .int .i64 e0], .agg #[.int .i64 m, .int .i64 k], .agg #[.bool b2, u, .int .i64 e2]] w (fun r w' => r = .returned (.tuple #[.bool is, .int .i64 e]) ∧ Below w.heap.size w w') := by
  obtain ⟨a, n, kk, rfl⟩ := h.slice
  obtain ⟨a', n', kk', rfl⟩ := h'.slice
  have d1 : decide (m < -2147483648) = false := decide_eq_false (by omega)
  have d2 : decide (2147483648 < m) = false := decide_eq_false (by omega)
  have d3 : decide (k < -2147483648) = false := decide_eq_false (by omega)
  have d4 : decide (2147483648 < k) = false := decide_eq_false (by omega)
  have HC := Lib.hid HC0
  have P := blk3_1 (w := w) (T := 32) (c := #[.bool b0, .slice a n kk, .int .i64 e0]) (o := .cells #[.int .i64 m, .int .i64 k] 36 (0, 0)) (o' := .cells #[.bool b2, .slice a' n' kk', .int .i64 e2] 32 (0, 0))
  have Q := blk3_2 (w := w) (T := 36) (o := .cells #[.bool b0, .slice a n kk, .int .i64 e0] 32 (0, 0)) (c := #[.int .i64 m, .int .i64 k]) (o' := .cells #[.bool b2, .slice a' n' kk', .int .i64 e2] 32 (0, 0))
  have R := blk3_3 (w := w) (T := 32) (o := .cells #[.bool b0, .slice a n kk, .int .i64 e0] 32 (0, 0)) (o' := .cells #[.int .i64 m, .int .i64 k] 36 (0, 0)) (c := #[.bool b2, .slice a' n' kk', .int .i64 e2])
  have B : Below w.heap.size w (((w.alloc (.cells #[.bool b0, .slice a n kk, .int .i64 e0] 32 (0, 0))).alloc (.cells #[.int .i64 m, .int .i64 k] 36 (0, 0))).alloc (.cells #[.bool b2, .slice a' n' kk', .int .i64 e2] 32 (0, 0))) := below_3
  have x0 := h.below B; have y0 := h'.below B; have T0 := hT.below B
  clear h h' hT HC0
  by_cases he : e = 0
  · subst he
    by_cases hc : c = 0
    · subst hc
      obtain rfl : is = true := by rw [← his]; rfl
      clear his
      go_enter Tryd.func29, Tryd.ntmps29
      go_upto_region 1 with fail
      generalize hwx : ((w.alloc (.cells #[.bool b0, .slice a n kk, .int .i64 e0] 32 (0, 0))).alloc (.cells #[.int .i64 m, .int .i64 k] 36 (0, 0))).alloc (.cells #[.bool b2, .slice a' n' kk', .int .i64 e2] 32 (0, 0)) = w0 at *
      clear hwx
      obtain ⟨cP0, cP1, cP2, fP0, fP1, fP2, sP⟩ := P.open3
      obtain ⟨cQ0, cQ1, fQ0, fQ1, sQ⟩ := Q.open2
      obtain ⟨cR0, cR1, cR2, fR0, fR1, fR2, sR⟩ := R.open3
      go_wp2_with
      (first
        | (go_at_call 53; (with_reducible refine (HC.out _ _ _ x0 y0 T0).mono ?_); rintro e w1 ⟨rfl, hb1⟩; have B1 := B.trans (hb1.mono B.size); have x1 := x0.below hb1; have y1 := y0.below hb1; have T1 := T0.below hb1; clear x0 y0 T0)
        | fail)
      go_ret2
      exact ⟨rfl, by assumption⟩
    · obtain rfl : is = false := by rw [← his, decide_eq_false hc, Bool.and_false]
      have hcb : (c == 0) = false := beq_eq_false_iff_ne.2 hc
      clear his hc
      go_enter Tryd.func29, Tryd.ntmps29
      go_upto_region 1 with fail
      generalize hwx : ((w.alloc (.cells #[.bool b0, .slice a n kk, .int .i64 e0] 32 (0, 0))).alloc (.cells #[.int .i64 m, .int .i64 k] 36 (0, 0))).alloc (.cells #[.bool b2, .slice a' n' kk', .int .i64 e2] 32 (0, 0)) = w0 at *
      clear hwx
      obtain ⟨cP0, cP1, cP2, fP0, fP1, fP2, sP⟩ := P.open3
      obtain ⟨cQ0, cQ1, fQ0, fQ1, sQ⟩ := Q.open2
      obtain ⟨cR0, cR1, cR2, fR0, fR1, fR2, sR⟩ := R.open3
      go_wp2_with
      (first
        | (go_at_call 53; (with_reducible refine (HC.out _ _ _ x0 y0 T0).mono ?_); rintro e w1 ⟨rfl, hb1⟩; have B1 := B.trans (hb1.mono B.size); have x1 := x0.below hb1; have y1 := y0.below hb1; have T1 := T0.below hb1; clear x0 y0 T0)
        | fail)
      go_ret2
      exact ⟨rfl, by assumption⟩
  · obtain rfl : is = false := by rw [← his, decide_eq_false he, Bool.false_and]
    have heb : (e == 0) = false := beq_eq_false_iff_ne.2 he
    clear his he
    go_enter Tryd.func29, Tryd.ntmps29
    go_upto_region 1 with fail
    generalize hwx : ((w.alloc (.cells #[.bool b0, .slice a n kk, .int .i64 e0] 32 (0, 0))).alloc (.cells #[.int .i64 m, .int .i64 k] 36 (0, 0))).alloc (.cells #[.bool b2, .slice a' n' kk', .int .i64 e2] 32 (0, 0)) = w0 at *
    clear hwx
    obtain ⟨cP0, cP1, cP2, fP0, fP1, fP2, sP⟩ := P.open3
    obtain ⟨cQ0, cQ1, fQ0, fQ1, sQ⟩ := Q.open2
    obtain ⟨cR0, cR1, cR2, fR0, fR1, fR2, sR⟩ := R.open3
    go_wp2_with
    (first
      | (go_at_call 53; (with_reducible refine (HC.out _ _ _ x0 y0 T0).mono ?_); rintro e w1 ⟨rfl, hb1⟩; have B1 := B.trans (hb1.mono B.size); have x1 := x0.below hb1; have y1 := y0.below hb1; have T1 := T0.below hb1; clear x0 y0 T0)
      | fail)
    go_ret2
    exact ⟨rfl, by assumption⟩
end Go.Proofs.YtabdmnjdmnnejaaDoor
