/- exps.Exp by its values; refused scales; chapter 14's alive(). Conditions: math/bits' table stands in its variable. -/
import Derived.Test.YtflkemcoomgoiaaDoorEp4
import Derived.Test.YtflkemcoomgoiaaDoorExpG
import Derived.Test.YtflkemcoomgoiaaDoorLogB
namespace Go.Proofs.YtflkemcoomgoiaaDoor
set_option maxRecDepth 100000
open Go.RowKit Go.ChangeShapes Go.WideShapes
set_option linter.unusedVariables false
set_option linter.unusedSimpArgs false

theorem right_of {n : Bool} {m : Nat} {e : Int} (h1 : bitN m ≤ 20000) (h2 : -20000 ≤ e) (h3 : e ≤ 20000) (h4 : qv ⟨n, m, e⟩ < 4096) (h5 : -4096 < qv ⟨n, m, e⟩) : rightB m e = true ∧ (m = 0 ∨ (bitN m : Int) - 1 + e < 12) := by
  have ht : m = 0 ∨ (bitN m : Int) - 1 + e < 12 := by
    by_cases h0 : m = 0
    · exact .inl h0
    · exact .inr (top_small (d := ⟨n, m, e⟩) h0 h4 h5)
  refine ⟨?_, ht⟩
  unfold rightB fitsE topD
  simp only [Bool.and_eq_true, Bool.or_eq_true, decide_eq_true_eq]
  exact ⟨⟨by omega, by omega⟩, h1, h2, ht⟩

/-- exps.Exp by its values: nothing is refused. -/
theorem Exp_v {w : World} {v1 v2 : Value} {n1 n2 : Bool} {m1 m2 s : Nat} {e1 e2 : Int} (h : Num w v1 m1) (k : Num w v2 m2) (hT : Tab w) (q1 : bareD ⟨n1, m1, e1⟩ = ⟨n1, m1, e1⟩) (q2 : bareD ⟨n2, m2, e2⟩ = ⟨n2, m2, e2⟩)
    (z1 : bitN m1 ≤ 20000) (z2 : bitN m2 ≤ 20000) (r1 : -20000 ≤ e1) (r2 : e1 ≤ 20000) (r3 : -20000 ≤ e2) (r4 : e2 ≤ 20000) (a1 : -4096 < qv ⟨n1, m1, e1⟩) (a2 : qv ⟨n2, m2, e2⟩ < 4096) (hle : qv ⟨n1, m1, e1⟩ ≤ qv ⟨n2, m2, e2⟩)
    (hw : (ceilU ⟨n2, m2, e2⟩ s - floorU ⟨n1, m1, e1⟩ s) * 8 ≤ ((2 ^ s : Nat) : Int)) (s1 : 32 ≤ s) (s2 : s ≤ 8900) :
    Calls Tryd.prog 15 #[.agg #[.bool n1, v1, .int .i64 e1, .bool n2, v2, .int .i64 e2], .int .i64 (s : Int)] w (fun e w' => ∃ p1 k1 f1 p2 k2 f2 x y, e = .returned (.tuple #[.agg #[.bool p1, x, .int .i64 f1, .bool p2, y, .int .i64 f2], .int .i64 0]) ∧
      (XL (-(qv ⟨n1, m1, e1⟩)) (qv ⟨p1, k1, f1⟩) 1 ∧ XL (qv ⟨n2, m2, e2⟩) 1 (qv ⟨p2, k2, f2⟩) ∧ bareD ⟨p1, k1, f1⟩ = ⟨p1, k1, f1⟩ ∧ bareD ⟨p2, k2, f2⟩ = ⟨p2, k2, f2⟩ ∧ bitN k1 ≤ 20000 ∧ bitN k2 ≤ 20000 ∧ -1000000000 ≤ f1 ∧ f1 ≤ 1001000000 ∧ -1000000000 ≤ f2 ∧ f2 ≤ 1001000000) ∧ RdN w' x (digs BB k1) ∧ RdN w' y (digs BB k2) ∧ Below w.heap.size w w') := by
  obtain ⟨g1, t1⟩ := right_of z1 r1 r2 (by grind) a1
  obtain ⟨g2, t2⟩ := right_of z2 r3 r4 a2 (by grind)
  have hlh : floorU ⟨n1, m1, e1⟩ s ≤ ceilU ⟨n2, m2, e2⟩ s := floor_ceil hle
  have hl := floor_small (d := ⟨n1, m1, e1⟩) (s := s) t1
  refine (Exp_of h k hT (by omega) s2 hlh hl (fun w v u h k hT => Split_any h k hT (by omega) (by omega) (by omega) (by omega) q1 q2 g1 g2 (by omega) (by omega) hle (by omega) s2)).mono ?_
  rintro e w' ⟨L, H, ok, ⟨A, B, Le, He, p1, k1, f1, p2, k2, f2, x, y, rfl, hA, hB, hf, oe, qa, qb, hx, hy, hb⟩ | ⟨hbad, -⟩⟩
  · have hCD : L + L ≤ H + H := by have := ok.1.le; omega
    obtain ⟨h32, hL0⟩ := ln2_pos8 ok.1 (show 8 ≤ s by omega)
    have hqb := split_sizes rfl hCD h32 hL0 hl
    have hk : (splitK (floorU ⟨n1, m1, e1⟩ s) (L + L) (H + H)).natAbs ≤ 65536 := by rw [splitQ_abs]; exact hqb
    obtain ⟨x1, x2⟩ := exp_told s2 ok.1 hA hB hf oe hk qa qb
    obtain ⟨y1, y2⟩ := oe.size (show s ≤ 9000 by omega)
    clear h32 hl hf hw
    obtain ⟨-, c1, c2⟩ := bareD_fits qa (Nat.le_trans y1 (by decide)) (by omega) (by omega)
    obtain ⟨-, c3, c4⟩ := bareD_fits qb (Nat.le_trans y2 (by decide)) (by omega) (by omega)
    exact ⟨p1, k1, f1, p2, k2, f2, x, y, rfl, ⟨x1, x2, bareD_again qa (by omega) (by omega), bareD_again qb (by omega) (by omega), Nat.le_trans (bareD_bits qa) y1, Nat.le_trans (bareD_bits qb) y2, c1, c2, c3, c4⟩, hx, hy, hb⟩
  · exact absurd hbad (not_refused s1 ok.1 hlh hl hw)

theorem Split_arg {w : World} {a1 a2 : Option Addr} {l1 c1 l2 c2 : Nat} {b1 b2 : Bool} {e1 e2 s : Int} (hs : s < 8) :
    Calls Tryd.prog 31 #[.agg #[.bool b1, .slice a1 l1 c1, .int .i64 e1, .bool b2, .slice a2 l2 c2, .int .i64 e2], .int .i64 s] w (fun e w' => e = .returned (.tuple #[.int .i64 0, .slice none 0 0, .slice none 0 0, .int .i64 1]) ∧ Below w.heap.size w w') := by
  have d1 : decide (s < 8) = true := decide_eq_true hs
  clear hs
  go_enter Tryd.func31, Tryd.ntmps31
  go_wp2_with fail
  refine bodyPost_ret (v := .tuple #[.int .i64 0, .slice none 0 0, .slice none 0 0, .int .i64 1]) ?_ rfl ?_
  · simp [results, Tryd.results31, go_sem]
  · exact ⟨rfl, below_alloc _ _⟩
theorem Exp_arg14 {w : World} {a1 a2 : Option Addr} {l1 c1 l2 c2 : Nat} {b1 b2 : Bool} {e1 e2 s : Int} (hs : s < 8) :
    Calls Tryd.prog 15 #[.agg #[.bool b1, .slice a1 l1 c1, .int .i64 e1, .bool b2, .slice a2 l2 c2, .int .i64 e2], .int .i64 s] w (fun e w' => e = .returned (.tuple #[.agg #[.bool false, .slice none 0 0, .int .i64 0, .bool false, .slice none 0 0, .int .i64 0], .int .i64 1]) ∧ Below w.heap.size w w') := by
  have HS := Lib.hid (fun w => Split_arg (w := w) (a1 := a1) (a2 := a2) (l1 := l1) (c1 := c1) (l2 := l2) (c2 := c2) (b1 := b1) (b2 := b2) (e1 := e1) (e2 := e2) hs)
  have P := blk_a1 (w := w) (T := 38) (c := #[.bool b1, .slice a1 l1 c1, .int .i64 e1, .bool b2, .slice a2 l2 c2, .int .i64 e2]) (o := .cells #[.bool false, .slice none 0 0, .int .i64 0, .bool false, .slice none 0 0, .int .i64 0] 38 (0, 0))
  have R := blk_a2 (w := w) (T := 38) (o := .cells #[.bool b1, .slice a1 l1 c1, .int .i64 e1, .bool b2, .slice a2 l2 c2, .int .i64 e2] 38 (0, 0)) (c := #[.bool false, .slice none 0 0, .int .i64 0, .bool false, .slice none 0 0, .int .i64 0])
  have B0 : Below w.heap.size w ((w.alloc (.cells #[.bool b1, .slice a1 l1 c1, .int .i64 e1, .bool b2, .slice a2 l2 c2, .int .i64 e2] 38 (0, 0))).alloc (.cells #[.bool false, .slice none 0 0, .int .i64 0, .bool false, .slice none 0 0, .int .i64 0] 38 (0, 0))) := below_2
  clear hs
  go_enter Tryd.func15, Tryd.ntmps15
  go_upto_region 1 with fail
  generalize (w.alloc (.cells #[.bool b1, .slice a1 l1 c1, .int .i64 e1, .bool b2, .slice a2 l2 c2, .int .i64 e2] 38 (0, 0))).alloc (.cells #[.bool false, .slice none 0 0, .int .i64 0, .bool false, .slice none 0 0, .int .i64 0] 38 (0, 0)) = w0 at *
  obtain ⟨cP0, cP1, cP2, cP3, cP4, cP5, fP0, fP1, fP2, fP3, fP4, fP5, sP⟩ := P.open6
  go_wp2_with
  (first
    | (go_at_call 31; (with_reducible refine (HS.out _).mono ?_); rintro e w1 ⟨rfl, hb1⟩; have B1 := B0.trans (hb1.mono B0.size); have P1 := P.below hb1; have R1 := R.below hb1; clear P R; obtain ⟨cP0_1, cP1_1, cP2_1, cP3_1, cP4_1, cP5_1, fP0_1, fP1_1, fP2_1, fP3_1, fP4_1, fP5_1, sP_1⟩ := P1.open6; obtain ⟨cR0_1, cR1_1, cR2_1, cR3_1, cR4_1, cR5_1, fR0_1, fR1_1, fR2_1, fR3_1, fR4_1, fR5_1, sR_1⟩ := R1.open6)
    | fail)
  obtain ⟨z0, z1, z2, z3, z4, z5, -⟩ := (R1.set6 (.bool false) (.slice none 0 0) (.int .i64 0) (.bool false) (.slice none 0 0) (.int .i64 0)).open6
  refine bodyPost_ret (v := .tuple #[.agg #[.bool false, .slice none 0 0, .int .i64 0, .bool false, .slice none 0 0, .int .i64 0], .int .i64 1]) ?_ rfl ?_
  · simp [results, Tryd.results15, go_sem, z0, z1, z2, z3, z4, z5]
  · exact ⟨rfl, below_set6 B1 (by omega) _ _ _ _ _ _⟩

theorem Cmp_geq {w : World} {v u : Value} {n1 n2 : Bool} {m1 m2 : Nat} {e1 e2 : Int} (h : Num w v m1) (k : Num w u m2) (hT : Tab w) (s1 : bitN m1 ≤ 400000) (s2 : bitN m2 ≤ 400000) (r1 : -2147483648 ≤ e1) (r2 : e1 ≤ 2147483648) (r3 : -2147483648 ≤ e2) (r4 : e2 ≤ 2147483648) (hle : qv ⟨n2, m2, e2⟩ ≤ qv ⟨n1, m1, e1⟩) :
    Calls Tryd.prog 17 #[.agg #[.bool n1, v, .int .i64 e1], .agg #[.bool n2, u, .int .i64 e2]] w (fun e w' => ∃ c : Int, e = .returned (.int .i64 c) ∧ decide (0 ≤ c) = true ∧ decide (c < 0) = false ∧ Below w.heap.size w w') := by
  refine (Cmp_v h k hT s1 s2 r1 r2 r3 r4).mono ?_
  rintro e w' ⟨c, rfl, hc, hb⟩
  have : 0 ≤ c := by
    rcases hc with ⟨h1, h2⟩ | ⟨h1, h2⟩ | ⟨h1, h2⟩
    · exfalso; grind
    · omega
    · omega
  exact ⟨c, rfl, decide_eq_true this, decide_eq_false (by omega), hb⟩
theorem Sign_gt {w : World} {v : Value} {n : Bool} {m : Nat} {e : Int} (h : Num w v m) (hq : 0 < qv ⟨n, m, e⟩) : Calls Tryd.prog 14 #[.agg #[.bool n, v, .int .i64 e]] w (fun r w' => r = .returned (.int .i64 1) ∧ Below w.heap.size w w') := Sign_n h (signD_pos hq)

/-- What is told of sizes. -/
def Sz (k1 k2 : Nat) (f1 f2 : Int) : Prop := bitN k1 ≤ 20000 ∧ bitN k2 ≤ 20000 ∧ -1000000000 ≤ f1 ∧ f1 ≤ 1001000000 ∧ -1000000000 ≤ f2 ∧ f2 ≤ 1001000000
theorem Exp_zero {w : World} (hT : Tab w) :
    Calls Tryd.prog 15 #[.agg #[.bool false, .slice none 0 0, .int .i64 0, .bool false, .slice none 0 0, .int .i64 0], .int .i64 64] w (fun e w' => ∃ p1 k1 f1 p2 k2 f2 x y, e = .returned (.tuple #[.agg #[.bool p1, x, .int .i64 f1, .bool p2, y, .int .i64 f2], .int .i64 0]) ∧
      (qv ⟨p1, k1, f1⟩ ≤ 1 ∧ 1 ≤ qv ⟨p2, k2, f2⟩ ∧ 0 < qv ⟨p1, k1, f1⟩ ∧ Sz k1 k2 f1 f2) ∧ RdN w' x (digs BB k1) ∧ RdN w' y (digs BB k2) ∧ Below w.heap.size w w') := by
  have q0 : qv ⟨false, 0, 0⟩ = 0 := qv_zero rfl
  have hw : (ceilU ⟨false, 0, 0⟩ 64 - floorU ⟨false, 0, 0⟩ 64) * 8 ≤ ((2 ^ 64 : Nat) : Int) := by
    have e1 : ceilU ⟨false, 0, 0⟩ 64 = 0 := by decide
    have e2 : floorU ⟨false, 0, 0⟩ 64 = 0 := by decide
    rw [e1, e2]; decide
  refine (Exp_v (n1 := false) (n2 := false) (m1 := 0) (m2 := 0) (s := 64) (e1 := 0) (e2 := 0) (Num.nil w) (Num.nil w) hT (bareD_zero rfl) (bareD_zero rfl) (by decide) (by decide) (by decide) (by decide) (by decide) (by decide) (by rw [q0]; decide) (by rw [q0]; decide) Rat.le_refl hw (by decide) (by decide)).mono ?_
  rintro e w' ⟨p1, k1, f1, p2, k2, f2, x, y, rfl, ⟨x1, x2, -, -, z⟩, hr⟩
  rw [q0] at x1 x2
  refine ⟨p1, k1, f1, p2, k2, f2, x, y, rfl, ⟨?_, x2.zero_le, x1.1, z⟩, hr⟩
  have e0 : -(0 : Rat) = 0 := by decide
  rw [e0] at x1
  exact x1.zero_le

end Go.Proofs.YtflkemcoomgoiaaDoor
