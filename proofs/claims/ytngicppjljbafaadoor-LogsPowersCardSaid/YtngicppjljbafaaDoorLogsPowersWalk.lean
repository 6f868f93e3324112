/- LogsPowers returns true and leaves what was there: the walk. Conditions: math/bits' table stands in its variable. -/
import Derived.Test.YtngicppjljbafaaDoorLog7
import Derived.Deep.CutBlock
namespace Go.Proofs.YtngicppjljbafaaDoor.PLPow
set_option maxRecDepth 100000
open Go.RowKit Go.Proofs.YtngicppjljbafaaDoor
set_option linter.unusedVariables false

theorem cells36 {w : World} {b : Nat} {x0 x1 x2 x3 x4 x5 : Value} (h : Blk w b #[x0, x1, x2, x3, x4, x5]) : w.cell? ⟨b, 0, none⟩ = some x0 ∧ w.cell? ⟨b, 1, none⟩ = some x1 ∧ w.cell? ⟨b, 2, none⟩ = some x2 ∧ w.cell? ⟨b, 3, none⟩ = some x3 ∧ w.cell? ⟨b, 4, none⟩ = some x4 ∧ w.cell? ⟨b, 5, none⟩ = some x5 :=
  ⟨h.open6.1, h.open6.2.1, h.open6.2.2.1, h.open6.2.2.2.1, h.open6.2.2.2.2.1, h.open6.2.2.2.2.2.1⟩

set_option maxRecDepth 100000 in
set_option maxHeartbeats 8000000 in
theorem walk (a0 a1 : Int) (w : World) (w0 : (Lit.int .i16 a0).wf = true) (w1 : (Lit.int .u8 a1).wf = true) (hT : Tab w) :
    Calls Tryd.prog 6 #[.int .i16 a0, .int .u8 a1] w fun e w' => e = .returned (.bool true) ∧ Below w.heap.size w w' := by
  have h0 : -32768 ≤ a0 ∧ a0 ≤ 32767 := by simpa [Lit.wf, IntKind.min, IntKind.max, IntKind.bits, IntKind.signed] using w0
  have h1 : 0 ≤ a1 ∧ a1 ≤ 255 := by simpa [Lit.wf, IntKind.min, IntKind.max, IntKind.bits, IntKind.signed] using w1
  clear w0 w1
  obtain ⟨s, rfl⟩ := Int.eq_ofNat_of_zero_le h1.1
  obtain ⟨n, hn⟩ : ∃ n, a0.tmod 2000 = n := ⟨_, rfl⟩
  have hn1 : -2000 < n ∧ n < 2000 := by
    have h2 := Int.tmod_lt_of_pos a0 (show (0 : Int) < 2000 by omega)
    have h3 := Int.lt_tmod_of_pos a0 (show (0 : Int) < 2000 by omega)
    omega
  obtain ⟨z, hz⟩ : ∃ z, 16 + s = z := ⟨_, rfl⟩
  have z1 : 8 ≤ z := by omega
  have z2 : z ≤ 9000 := by omega
  have v0 : IntKind.i64.wrap (s : Int) = (s : Int) := by rw [IntKind.wrap_i64]; omega
  have v1 : IntKind.i64.wrap (16 + (s : Int)) = (z : Int) := by rw [IntKind.wrap_i64]; omega
  have v2 : IntKind.i64.wrap a0 = a0 := by rw [IntKind.wrap_i64]; omega
  have v3 : IntKind.i64.wrap n = n := by rw [IntKind.wrap_i64]; omega
  have v4 : IntKind.i64.wrap (-n) = -n := by rw [IntKind.wrap_i64]; omega
  have h1B : 1 < BB := by decide
  have sb1 : bitN 1 = 1 := bitN_one
  have HP := Lib.hid (fun (w : World) v (h : Num w v 1) (hT : Tab w) => Log_w (neg := false) (E := n) h hT (by omega) (by omega) (near_small (by decide) (by omega) (by omega) (by omega)) z1 z2)
  have HQ := Lib.hid (fun (w : World) v (h : Num w v 1) (hT : Tab w) => Log_w (neg := false) (E := -n) h hT (by omega) (by omega) (near_small (by decide) (by omega) (by omega) (by omega)) z1 z2)
  have HO2 := Lib.hid (fun w (hT : Tab w) => show Calls Tryd.prog 29 #[.int .i64 2] w _ from Of_n (n := 2) (by decide) hT bare2)
  have HT2 := Lib.hid (fun (w : World) v (h : RdN w v (digs BB 1)) (hT : Tab w) => Log_w (neg := false) (E := 1) (h.num (by omega)) hT (by omega) (by omega) near2 z1 z2)
  have HOF := Lib.hid (fun (w : World) (hT : Tab w) => Of_v (w := w) (n := n) (by omega) (by omega) hT)
  have qp : qv ⟨false, 1, n⟩ = pw n := by rw [qv_pos]; exact Rat.one_mul _
  have qq : qv ⟨false, 1, -n⟩ = pw (-n) := by rw [qv_pos]; exact Rat.one_mul _
  have qt : qv ⟨false, 1, 1⟩ = 2 := by rw [qv_pos, pw_one]; exact Rat.one_mul _
  rw [qp] at HP
  rw [qq] at HQ
  rw [qt] at HT2
  have Hn := Lib.hid hn1
  have Hg := Lib.hid hT.lt
  clear hz h0 h1 sb1 qp qq qt
  go_enter Tryd.func6, Tryd.ntmps6
  go_upto_region 5 with
  (first
    | (go_at_call 7; (with_reducible refine (alive13_any hT).mono ?_); rintro e w1 ⟨rfl, hb1⟩; have B1 := hb1; have T1 := hT.below hb1; clear hT)
    | (go_at_call 18; (with_reducible refine (HP.out _ _ (RdN.num1 ?_ h1B) (T1.below (below_alloc _ _))).mono ?_); (exact rd_one (heap_alloc_new _ _) trivial); rintro e w2 ⟨n1, m1, e1, n2, m2, e2, vi, vj, rfl, ox, i2, j2, hb2⟩; have hb2' := (below_a hb2); have B2 := B1.trans (hb2'.mono B1.size); have T2 := T1.below hb2'; clear T1; obtain ⟨ai2, ki2, rfl, -⟩ := i2.view; (try simp only [List.length_nil] at i2); obtain ⟨aj2, kj2, rfl, -⟩ := j2.view; try simp only [List.length_nil] at j2)
    | fail)
  have i3 := i2.below (below_alloc w2 (.cells #[.bool n1, .slice ai2 (digs BB m1).length ki2, .int .i64 e1, .bool n2, .slice aj2 (digs BB m2).length kj2, .int .i64 e2] 43 (0, 0)))
  have j3 := j2.below (below_alloc w2 (.cells #[.bool n1, .slice ai2 (digs BB m1).length ki2, .int .i64 e1, .bool n2, .slice aj2 (digs BB m2).length kj2, .int .i64 e2] 43 (0, 0)))
  have T3 := T2.below (below_alloc w2 (.cells #[.bool n1, .slice ai2 (digs BB m1).length ki2, .int .i64 e1, .bool n2, .slice aj2 (digs BB m2).length kj2, .int .i64 e2] 43 (0, 0)))
  have B3 := B2.alloc B2.size (.cells #[.bool n1, .slice ai2 (digs BB m1).length ki2, .int .i64 e1, .bool n2, .slice aj2 (digs BB m2).length kj2, .int .i64 e2] 43 (0, 0))
  have I3 : Blk (w2.alloc (.cells #[.bool n1, .slice ai2 (digs BB m1).length ki2, .int .i64 e1, .bool n2, .slice aj2 (digs BB m2).length kj2, .int .i64 e2] 43 (0, 0))) w2.heap.size _ := blk_new
  clear i2 j2 T2 B2
  generalize w2.alloc (.cells #[.bool n1, .slice ai2 (digs BB m1).length ki2, .int .i64 e1, .bool n2, .slice aj2 (digs BB m2).length kj2, .int .i64 e2] 43 (0, 0)) = w3 at *
  generalize hbi : w2.heap.size = bi at *
  go_upto_region 6 with
  (first
    | (go_at_call 18; (with_reducible refine (HQ.out _ _ (RdN.num1 ?_ h1B) (T3.below (below_alloc _ _))).mono ?_); (exact rd_one (heap_alloc_new _ _) trivial); rintro e w11 ⟨n3, m3, e3, n4, m4, e4, vk, vl, rfl, oy, k11, l11, hb11⟩; have hb11' := (below_a hb11); have B11 := B3.trans (hb11'.mono B3.size); have i11 := i3.below hb11'; have j11 := j3.below hb11'; have T11 := T3.below hb11'; have I11 := I3.below hb11'; clear i3 j3 T3 I3; obtain ⟨cI0_11, cI1_11, cI2_11, cI3_11, cI4_11, cI5_11, fI0_11, fI1_11, fI2_11, fI3_11, fI4_11, fI5_11, sI_11⟩ := I11.open6; obtain ⟨ak11, kk11, rfl, -⟩ := k11.view; (try simp only [List.length_nil] at k11); obtain ⟨al11, kl11, rfl, -⟩ := l11.view; try simp only [List.length_nil] at l11)
    | fail)
  have i4 := i11.below (below_alloc w11 (.cells #[.bool n3, .slice ak11 (digs BB m3).length kk11, .int .i64 e3, .bool n4, .slice al11 (digs BB m4).length kl11, .int .i64 e4] 43 (0, 0)))
  have j4 := j11.below (below_alloc w11 (.cells #[.bool n3, .slice ak11 (digs BB m3).length kk11, .int .i64 e3, .bool n4, .slice al11 (digs BB m4).length kl11, .int .i64 e4] 43 (0, 0)))
  have k4 := k11.below (below_alloc w11 (.cells #[.bool n3, .slice ak11 (digs BB m3).length kk11, .int .i64 e3, .bool n4, .slice al11 (digs BB m4).length kl11, .int .i64 e4] 43 (0, 0)))
  have l4 := l11.below (below_alloc w11 (.cells #[.bool n3, .slice ak11 (digs BB m3).length kk11, .int .i64 e3, .bool n4, .slice al11 (digs BB m4).length kl11, .int .i64 e4] 43 (0, 0)))
  have T4 := T11.below (below_alloc w11 (.cells #[.bool n3, .slice ak11 (digs BB m3).length kk11, .int .i64 e3, .bool n4, .slice al11 (digs BB m4).length kl11, .int .i64 e4] 43 (0, 0)))
  have I4 := I11.below (below_alloc w11 (.cells #[.bool n3, .slice ak11 (digs BB m3).length kk11, .int .i64 e3, .bool n4, .slice al11 (digs BB m4).length kl11, .int .i64 e4] 43 (0, 0)))
  have B4 := B11.alloc B11.size (.cells #[.bool n3, .slice ak11 (digs BB m3).length kk11, .int .i64 e3, .bool n4, .slice al11 (digs BB m4).length kl11, .int .i64 e4] 43 (0, 0))
  have J4 : Blk (w11.alloc (.cells #[.bool n3, .slice ak11 (digs BB m3).length kk11, .int .i64 e3, .bool n4, .slice al11 (digs BB m4).length kl11, .int .i64 e4] 43 (0, 0))) w11.heap.size _ := blk_new
  have li : bi < w11.heap.size := I11.1
  clear i11 j11 k11 l11 T11 B11 I11 cI0_11 cI1_11 cI2_11 cI3_11 cI4_11 cI5_11 fI0_11 fI1_11 fI2_11 fI3_11 fI4_11 fI5_11 sI_11
  generalize w11.alloc (.cells #[.bool n3, .slice ak11 (digs BB m3).length kk11, .int .i64 e3, .bool n4, .slice al11 (digs BB m4).length kl11, .int .i64 e4] 43 (0, 0)) = w4 at *
  generalize hbj : w11.heap.size = bj at *
  go_upto_region 9 with
  (first
    | (go_at_call 29; (with_reducible refine (HO2.out _ T4).mono ?_); rintro e w21 ⟨vx21, rfl, x21, hb21⟩; have B21 := B4.trans (hb21.mono B4.size); have i21 := i4.below hb21; have j21 := j4.below hb21; have k21 := k4.below hb21; have l21 := l4.below hb21; have T21 := T4.below hb21; have I21 := I4.below hb21; have J21 := J4.below hb21; clear i4 j4 k4 l4 T4 I4 J4; obtain ⟨cI0_21, cI1_21, cI2_21, cI3_21, cI4_21, cI5_21, fI0_21, fI1_21, fI2_21, fI3_21, fI4_21, fI5_21, sI_21⟩ := I21.open6; obtain ⟨cJ0_21, cJ1_21, cJ2_21, cJ3_21, cJ4_21, cJ5_21, fJ0_21, fJ1_21, fJ2_21, fJ3_21, fJ4_21, fJ5_21, sJ_21⟩ := J21.open6; obtain ⟨ux21, rfl, x21⟩ := x21; obtain ⟨ax21, kx21, rfl, -⟩ := x21.view)
    | (go_at_call 18; (with_reducible refine (HT2.out _ _ x21 T21).mono ?_); rintro e w22 ⟨n5, m5, e5, n6, m6, e6, vg, vh, rfl, oz, g22, h22, hb22⟩; have B22 := B21.trans (hb22.mono B21.size); have i22 := i21.below hb22; have j22 := j21.below hb22; have k22 := k21.below hb22; have l22 := l21.below hb22; have T22 := T21.below hb22; have I22 := I21.below hb22; have J22 := J21.below hb22; have x22 := x21.below hb22; clear i21 j21 k21 l21 T21 I21 J21 x21; clear cI0_21 cI1_21 cI2_21 cI3_21 cI4_21 cI5_21 fI0_21 fI1_21 fI2_21 fI3_21 fI4_21 fI5_21 sI_21; obtain ⟨cI0_22, cI1_22, cI2_22, cI3_22, cI4_22, cI5_22, fI0_22, fI1_22, fI2_22, fI3_22, fI4_22, fI5_22, sI_22⟩ := I22.open6; clear cJ0_21 cJ1_21 cJ2_21 cJ3_21 cJ4_21 cJ5_21 fJ0_21 fJ1_21 fJ2_21 fJ3_21 fJ4_21 fJ5_21 sJ_21; obtain ⟨cJ0_22, cJ1_22, cJ2_22, cJ3_22, cJ4_22, cJ5_22, fJ0_22, fJ1_22, fJ2_22, fJ3_22, fJ4_22, fJ5_22, sJ_22⟩ := J22.open6; obtain ⟨ag22, kg22, rfl, -⟩ := g22.view; (try simp only [List.length_nil] at g22); obtain ⟨ah22, kh22, rfl, -⟩ := h22.view; try simp only [List.length_nil] at h22)
    | fail)
  have i5 := i22.below (below_alloc w22 (.cells #[.bool n5, .slice ag22 (digs BB m5).length kg22, .int .i64 e5, .bool n6, .slice ah22 (digs BB m6).length kh22, .int .i64 e6] 43 (0, 0)))
  have j5 := j22.below (below_alloc w22 (.cells #[.bool n5, .slice ag22 (digs BB m5).length kg22, .int .i64 e5, .bool n6, .slice ah22 (digs BB m6).length kh22, .int .i64 e6] 43 (0, 0)))
  have k5 := k22.below (below_alloc w22 (.cells #[.bool n5, .slice ag22 (digs BB m5).length kg22, .int .i64 e5, .bool n6, .slice ah22 (digs BB m6).length kh22, .int .i64 e6] 43 (0, 0)))
  have l5 := l22.below (below_alloc w22 (.cells #[.bool n5, .slice ag22 (digs BB m5).length kg22, .int .i64 e5, .bool n6, .slice ah22 (digs BB m6).length kh22, .int .i64 e6] 43 (0, 0)))
  have g5 := g22.below (below_alloc w22 (.cells #[.bool n5, .slice ag22 (digs BB m5).length kg22, .int .i64 e5, .bool n6, .slice ah22 (digs BB m6).length kh22, .int .i64 e6] 43 (0, 0)))
  have h5 := h22.below (below_alloc w22 (.cells #[.bool n5, .slice ag22 (digs BB m5).length kg22, .int .i64 e5, .bool n6, .slice ah22 (digs BB m6).length kh22, .int .i64 e6] 43 (0, 0)))
  have T5 := T22.below (below_alloc w22 (.cells #[.bool n5, .slice ag22 (digs BB m5).length kg22, .int .i64 e5, .bool n6, .slice ah22 (digs BB m6).length kh22, .int .i64 e6] 43 (0, 0)))
  have I5 := I22.below (below_alloc w22 (.cells #[.bool n5, .slice ag22 (digs BB m5).length kg22, .int .i64 e5, .bool n6, .slice ah22 (digs BB m6).length kh22, .int .i64 e6] 43 (0, 0)))
  have J5 := J22.below (below_alloc w22 (.cells #[.bool n5, .slice ag22 (digs BB m5).length kg22, .int .i64 e5, .bool n6, .slice ah22 (digs BB m6).length kh22, .int .i64 e6] 43 (0, 0)))
  have B5 := B22.alloc B22.size (.cells #[.bool n5, .slice ag22 (digs BB m5).length kg22, .int .i64 e5, .bool n6, .slice ah22 (digs BB m6).length kh22, .int .i64 e6] 43 (0, 0))
  have K5 : Blk (w22.alloc (.cells #[.bool n5, .slice ag22 (digs BB m5).length kg22, .int .i64 e5, .bool n6, .slice ah22 (digs BB m6).length kh22, .int .i64 e6] 43 (0, 0))) w22.heap.size _ := blk_new
  have lj : bj < w22.heap.size := J22.1
  clear i22 j22 k22 l22 g22 h22 x22 T22 B22 I22 J22 cI0_22 cI1_22 cI2_22 cI3_22 cI4_22 cI5_22 fI0_22 fI1_22 fI2_22 fI3_22 fI4_22 fI5_22 sI_22 cJ0_22 cJ1_22 cJ2_22 cJ3_22 cJ4_22 cJ5_22 fJ0_22 fJ1_22 fJ2_22 fJ3_22 fJ4_22 fJ5_22 sJ_22
  generalize w22.alloc (.cells #[.bool n5, .slice ag22 (digs BB m5).length kg22, .int .i64 e5, .bool n6, .slice ah22 (digs BB m6).length kh22, .int .i64 e6] 43 (0, 0)) = w5 at *
  generalize hbk : w22.heap.size = bk at *
  obtain ⟨lx, mx1, mx2⟩ := ox
  obtain ⟨ly, my1, my2⟩ := oy
  obtain ⟨lz, mz1, mz2⟩ := oz
  have HMU : Hid (∀ (w : World) v u n' M' E' nn mm ee, RdN w v (digs BB mm) → RdN w u (digs BB M') → Tab w → Mid 10000 ⟨nn, mm, ee⟩ → Mid 64 ⟨n', M', E'⟩ → Calls Tryd.prog 26 #[.agg #[.bool nn, v, .int .i64 ee], .agg #[.bool n', u, .int .i64 E']] w (fun e w' => ∃ n m x v, e = .returned (.tuple #[.agg #[.bool n, v, .int .i64 x], .int .i64 0]) ∧ (qv ⟨n, m, x⟩ = qv ⟨nn, mm, ee⟩ * qv ⟨n', M', E'⟩ ∧ Mid 20000 ⟨n, m, x⟩ ∧ bareD ⟨n, m, x⟩ = ⟨n, m, x⟩) ∧ RdN w' v (digs BB m) ∧ Below w.heap.size w w')) := Lib.hid (fun w v u n' M' E' nn mm ee h k hT g1 g2 => by
    have a1 := g1.nums
    have a2 := g2.nums
    exact Mul_v (h.num (by omega)) (k.num (by omega)) hT g1 (g2.mono (by omega)) (by omega) (by omega))
  -- region 9 on
  have HB5 := Lib.hid B5.size
  have HS5 := Lib.hid (show bk < w5.heap.size from K5.1)
  have HMI : Hid (∀ (w : World) v nn mm ee, RdN w v (digs BB mm) → Tab w → Mid 10000 ⟨nn, mm, ee⟩ → Calls Tryd.prog 32 #[.agg #[.bool nn, v, .int .i64 ee]] w (fun e w' => ∃ n m x v, e = .returned (.agg #[.bool n, v, .int .i64 x]) ∧ (qv ⟨n, m, x⟩ = -qv ⟨nn, mm, ee⟩ ∧ Mid 10000 ⟨n, m, x⟩ ∧ bareD ⟨n, m, x⟩ = ⟨n, m, x⟩) ∧ RdN w' v (digs BB m) ∧ Below w.heap.size w w')) := Lib.hid (fun w v nn mm ee h hT g => by
    have a1 := g.nums
    exact Minus_v (h.num (by omega)) hT g (by omega) (by omega))
  have HCM : Hid (∀ (w : World) v u n1 m1 e1 n2 m2 e2, RdN w v (digs BB m1) → RdN w u (digs BB m2) → Tab w → Mid 20000 ⟨n1, m1, e1⟩ → Mid 20000 ⟨n2, m2, e2⟩ → qv ⟨n1, m1, e1⟩ ≤ qv ⟨n2, m2, e2⟩ → Calls Tryd.prog 28 #[.agg #[.bool n1, v, .int .i64 e1], .agg #[.bool n2, u, .int .i64 e2]] w (fun e w' => ∃ c : Int, e = .returned (.int .i64 c) ∧ decide (c ≤ 0) = true ∧ decide (0 < c) = false ∧ Below w.heap.size w w')) := Lib.hid (fun w v u n1 m1 e1 n2 m2 e2 h k hT g1 g2 hle => by
    obtain ⟨k1, k3, k4⟩ := g1.nums
    obtain ⟨k2, k5, k6⟩ := g2.nums
    exact Cmp_leq (h.num (by omega)) (k.num (by omega)) hT (by omega) (by omega) (by omega) (by omega) (by omega) (by omega) hle)
  go_cut [13] (fun v w' => ∃ nA mA eA aA kA bA, v = .pointer (some ⟨bA, 0, none⟩) ∧ Blk w' bA #[.bool nA, .slice aA (digs BB mA).length kA, .int .i64 eA] ∧ RdN w' (.slice aA (digs BB mA).length kA) (digs BB mA) ∧ (qv ⟨nA, mA, eA⟩ = qv ⟨n5, m5, e5⟩ * (n : Rat) ∧ Mid 20000 ⟨nA, mA, eA⟩) ∧ w5.heap.size ≤ bA ∧ Below w5.heap.size w5 w')
  case first =>
    have sK : bk < w5.heap.size := K5.1
    go_region_held3 (fun w' => w'.cell? ⟨bk, 0, none⟩ = some (.bool n5) ∧ w'.cell? ⟨bk, 1, none⟩ = some (.slice ag22 (digs BB m5).length kg22) ∧ w'.cell? ⟨bk, 2, none⟩ = some (.int .i64 e5) ∧ w'.cell? ⟨bk, 3, none⟩ = some (.bool n6) ∧ w'.cell? ⟨bk, 4, none⟩ = some (.slice ah22 (digs BB m6).length kh22) ∧ w'.cell? ⟨bk, 5, none⟩ = some (.int .i64 e6))
      (refine cells36 ?_ <;> (repeat' (first | with_reducible assumption | with_reducible exact blk_new | with_reducible exact blk_a2 | with_reducible exact Below.refl _ _ | with_reducible refine Blk.set3z ?_ _ _ _ | with_reducible refine Blk.other3 ?_ ?_ _ _ _ | with_reducible refine Blk.below ?_ hbo | with_reducible refine Blk.below ?_ hbm | with_reducible refine Blk.next ?_ | with_reducible refine Blk.dr ?_ | with_reducible refine bel_dr ?_ | with_reducible refine bel_set3 ?_ ?_ _ _ _ | with_reducible refine bel_trans ?_ hbo | with_reducible refine bel_trans ?_ hbm | with_reducible refine bel_next ?_ | with_reducible refine RdD.set3z ?_ ?_ _ _ _ | with_reducible refine RdN.set3z ?_ ?_ _ _ _ | with_reducible refine RdD.below ?_ hbo | with_reducible refine RdD.below ?_ hbm | with_reducible refine RdN.below ?_ hbo | with_reducible refine RdN.below ?_ hbm | with_reducible refine RdD.below ?_ (below_alloc _ _) | with_reducible refine RdN.below ?_ (below_alloc _ _) | ((try simp only [size_alloc, size_drew]); omega))))
      (first
        | (go_at_call 29; (with_reducible refine (HOF.out _ (Tab.below T5 ?hbel)).mono ?_); (case hbel => (repeat' (first | with_reducible assumption | with_reducible exact blk_new | with_reducible exact blk_a2 | with_reducible exact Below.refl _ _ | with_reducible refine Blk.set3z ?_ _ _ _ | with_reducible refine Blk.other3 ?_ ?_ _ _ _ | with_reducible refine Blk.next ?_ | with_reducible refine Blk.dr ?_ | with_reducible refine bel_dr ?_ | with_reducible refine bel_set3 ?_ ?_ _ _ _ | with_reducible refine bel_next ?_ | with_reducible refine RdD.set3z ?_ ?_ _ _ _ | with_reducible refine RdN.set3z ?_ ?_ _ _ _ | with_reducible refine RdD.below ?_ (below_alloc _ _) | with_reducible refine RdN.below ?_ (below_alloc _ _) | ((try simp only [size_alloc, size_drew]); omega)))); rintro e wo ⟨no, mo, eo, vo, rfl, oo, ro, hbo⟩; have lo := hbo.size; (try simp only [size_drew] at lo); (try simp only [size_alloc] at lo); obtain ⟨ao, ko, rfl, -⟩ := ro.view;
            (first
              | (have N1 : Blk wo w5.heap.size #[.bool false, .slice none 0 0, .int .i64 0] := (Blk.dr blk_new).below hbo; have nb1 := N1.1)
              | skip))
        | (go_at_call 26; (with_reducible refine (HMU.out _ _ _ _ _ _ _ _ _ (RdN.below g5 ?h1) (RdN.below ro ?h2) (Tab.below T5 ?h3) mz1 oo.2.1).mono ?_); (case h1 => (repeat' (first | with_reducible assumption | with_reducible exact blk_new | with_reducible exact blk_a2 | with_reducible exact Below.refl _ _ | with_reducible refine Blk.set3z ?_ _ _ _ | with_reducible refine Blk.other3 ?_ ?_ _ _ _ | with_reducible refine Blk.below ?_ hbo | with_reducible refine Blk.next ?_ | with_reducible refine Blk.dr ?_ | with_reducible refine bel_dr ?_ | with_reducible refine bel_set3 ?_ ?_ _ _ _ | with_reducible refine bel_trans ?_ hbo | with_reducible refine bel_next ?_ | with_reducible refine RdD.set3z ?_ ?_ _ _ _ | with_reducible refine RdN.set3z ?_ ?_ _ _ _ | with_reducible refine RdD.below ?_ hbo | with_reducible refine RdN.below ?_ hbo | with_reducible refine RdD.below ?_ (below_alloc _ _) | with_reducible refine RdN.below ?_ (below_alloc _ _) | ((try simp only [size_alloc, size_drew]); omega)))); (case h2 => (repeat' (first | with_reducible assumption | with_reducible exact blk_new | with_reducible exact blk_a2 | with_reducible exact Below.refl _ _ | with_reducible refine Blk.set3z ?_ _ _ _ | with_reducible refine Blk.other3 ?_ ?_ _ _ _ | with_reducible refine Blk.next ?_ | with_reducible refine Blk.dr ?_ | with_reducible refine bel_dr ?_ | with_reducible refine bel_set3 ?_ ?_ _ _ _ | with_reducible refine bel_next ?_ | with_reducible refine RdD.set3z ?_ ?_ _ _ _ | with_reducible refine RdN.set3z ?_ ?_ _ _ _ | with_reducible refine RdD.below ?_ (below_alloc _ _) | with_reducible refine RdN.below ?_ (below_alloc _ _) | ((try simp only [size_alloc, size_drew]); omega)))); (case h3 => (repeat' (first | with_reducible assumption | with_reducible exact blk_new | with_reducible exact blk_a2 | with_reducible exact Below.refl _ _ | with_reducible refine Blk.set3z ?_ _ _ _ | with_reducible refine Blk.other3 ?_ ?_ _ _ _ | with_reducible refine Blk.below ?_ hbo | with_reducible refine Blk.next ?_ | with_reducible refine Blk.dr ?_ | with_reducible refine bel_dr ?_ | with_reducible refine bel_set3 ?_ ?_ _ _ _ | with_reducible refine bel_trans ?_ hbo | with_reducible refine bel_next ?_ | with_reducible refine RdD.set3z ?_ ?_ _ _ _ | with_reducible refine RdN.set3z ?_ ?_ _ _ _ | with_reducible refine RdD.below ?_ hbo | with_reducible refine RdN.below ?_ hbo | with_reducible refine RdD.below ?_ (below_alloc _ _) | with_reducible refine RdN.below ?_ (below_alloc _ _) | ((try simp only [size_alloc, size_drew]); omega)))); rintro e wm ⟨nm, mm, em, vm, rfl, om, rm, hbm⟩; have lm := hbm.size; (try simp only [size_drew] at lm); (try simp only [size_alloc] at lm); obtain ⟨am, km, rfl, -⟩ := rm.view;
            (first
              | (have O1 := N1.below hbm; have ic := O1.open3)
              | (have O1 : Blk wm wo.heap.size #[.bool false, .slice none 0 0, .int .i64 0] := blk_new.below hbm; have ic := O1.open3)
              | (have ic := (blk_new (w := wm) (c := #[.bool false, .slice none 0 0, .int .i64 0]) (T := 32)).open3)))
        | fail)
    all_goals
      go_wp2_with fail
      go_meet
      (try have ob1 := O1.1)
      refine ⟨_, _, _, am, km, _, rfl, ?_, ?_, ⟨by rw [om.1, oo.1], om.2.1⟩, ?_, ?_⟩ <;> (repeat' (first | with_reducible assumption | with_reducible exact blk_new | with_reducible exact blk_a2 | with_reducible exact Below.refl _ _ | with_reducible refine Blk.set3z ?_ _ _ _ | with_reducible refine Blk.other3 ?_ ?_ _ _ _ | with_reducible refine Blk.below ?_ hbo | with_reducible refine Blk.below ?_ hbm | with_reducible refine Blk.next ?_ | with_reducible refine Blk.dr ?_ | with_reducible refine bel_dr ?_ | with_reducible refine bel_set3 ?_ ?_ _ _ _ | with_reducible refine bel_trans ?_ hbo | with_reducible refine bel_trans ?_ hbm | with_reducible refine bel_next ?_ | with_reducible refine RdD.set3z ?_ ?_ _ _ _ | with_reducible refine RdN.set3z ?_ ?_ _ _ _ | with_reducible refine RdD.below ?_ hbo | with_reducible refine RdD.below ?_ hbm | with_reducible refine RdN.below ?_ hbo | with_reducible refine RdN.below ?_ hbm | with_reducible refine RdD.below ?_ (below_alloc _ _) | with_reducible refine RdN.below ?_ (below_alloc _ _) | ((try simp only [size_alloc, size_drew]); omega)))
  case rest =>
    obtain ⟨nA, mA, eA, aA, kA, bA, rfl, A1, ra, oa, la, hb6⟩ := hcut
    generalize hwx : wc = w6 at *
    clear hwx
    have i6 := i5.below hb6
    have j6 := j5.below hb6
    have k6 := k5.below hb6
    have l6 := l5.below hb6
    have g6 := g5.below hb6
    have h6 := h5.below hb6
    have T6 := T5.below hb6
    have I6 := I5.below hb6
    have J6 := J5.below hb6
    have K6 := K5.below hb6
    have B6 := B5.trans (hb6.mono B5.size)
    have lA : bA < w6.heap.size := A1.1
    have lK : bk < w5.heap.size := K5.1
    clear i5 j5 k5 l5 g5 h5 T5 I5 J5 K5 B5
    go_upto_region 10 with fail
    go_cut [15] (fun v w' => ∃ nA mA eA aA kA bA, v = .pointer (some ⟨bA, 0, none⟩) ∧ Blk w' bA #[.bool nA, .slice aA (digs BB mA).length kA, .int .i64 eA] ∧ RdN w' (.slice aA (digs BB mA).length kA) (digs BB mA) ∧ (qv ⟨nA, mA, eA⟩ = qv ⟨n6, m6, e6⟩ * (n : Rat) ∧ Mid 20000 ⟨nA, mA, eA⟩) ∧ w6.heap.size ≤ bA ∧ Below w6.heap.size w6 w')
    case first =>
      have sK : bk < w6.heap.size := K6.1
      go_region_held3 (fun w' => w'.cell? ⟨bk, 0, none⟩ = some (.bool n5) ∧ w'.cell? ⟨bk, 1, none⟩ = some (.slice ag22 (digs BB m5).length kg22) ∧ w'.cell? ⟨bk, 2, none⟩ = some (.int .i64 e5) ∧ w'.cell? ⟨bk, 3, none⟩ = some (.bool n6) ∧ w'.cell? ⟨bk, 4, none⟩ = some (.slice ah22 (digs BB m6).length kh22) ∧ w'.cell? ⟨bk, 5, none⟩ = some (.int .i64 e6))
        (refine cells36 ?_ <;> (repeat' (first | with_reducible assumption | with_reducible exact blk_new | with_reducible exact blk_a2 | with_reducible exact Below.refl _ _ | with_reducible refine Blk.set3z ?_ _ _ _ | with_reducible refine Blk.other3 ?_ ?_ _ _ _ | with_reducible refine Blk.below ?_ hbo | with_reducible refine Blk.below ?_ hbm | with_reducible refine Blk.next ?_ | with_reducible refine Blk.dr ?_ | with_reducible refine bel_dr ?_ | with_reducible refine bel_set3 ?_ ?_ _ _ _ | with_reducible refine bel_trans ?_ hbo | with_reducible refine bel_trans ?_ hbm | with_reducible refine bel_next ?_ | with_reducible refine RdD.set3z ?_ ?_ _ _ _ | with_reducible refine RdN.set3z ?_ ?_ _ _ _ | with_reducible refine RdD.below ?_ hbo | with_reducible refine RdD.below ?_ hbm | with_reducible refine RdN.below ?_ hbo | with_reducible refine RdN.below ?_ hbm | with_reducible refine RdD.below ?_ (below_alloc _ _) | with_reducible refine RdN.below ?_ (below_alloc _ _) | ((try simp only [size_alloc, size_drew]); omega))))
        (first
          | (go_at_call 29; (with_reducible refine (HOF.out _ (Tab.below T6 ?hbel)).mono ?_); (case hbel => (repeat' (first | with_reducible assumption | with_reducible exact blk_new | with_reducible exact blk_a2 | with_reducible exact Below.refl _ _ | with_reducible refine Blk.set3z ?_ _ _ _ | with_reducible refine Blk.other3 ?_ ?_ _ _ _ | with_reducible refine Blk.next ?_ | with_reducible refine Blk.dr ?_ | with_reducible refine bel_dr ?_ | with_reducible refine bel_set3 ?_ ?_ _ _ _ | with_reducible refine bel_next ?_ | with_reducible refine RdD.set3z ?_ ?_ _ _ _ | with_reducible refine RdN.set3z ?_ ?_ _ _ _ | with_reducible refine RdD.below ?_ (below_alloc _ _) | with_reducible refine RdN.below ?_ (below_alloc _ _) | ((try simp only [size_alloc, size_drew]); omega)))); rintro e wo ⟨no, mo, eo, vo, rfl, oo, ro, hbo⟩; have lo := hbo.size; (try simp only [size_drew] at lo); (try simp only [size_alloc] at lo); obtain ⟨ao, ko, rfl, -⟩ := ro.view;
              (first
                | (have N1 : Blk wo w6.heap.size #[.bool false, .slice none 0 0, .int .i64 0] := (Blk.dr blk_new).below hbo; have nb1 := N1.1)
                | skip))
          | (go_at_call 26; (with_reducible refine (HMU.out _ _ _ _ _ _ _ _ _ (RdN.below h6 ?h1) (RdN.below ro ?h2) (Tab.below T6 ?h3) mz2 oo.2.1).mono ?_); (case h1 => (repeat' (first | with_reducible assumption | with_reducible exact blk_new | with_reducible exact blk_a2 | with_reducible exact Below.refl _ _ | with_reducible refine Blk.set3z ?_ _ _ _ | with_reducible refine Blk.other3 ?_ ?_ _ _ _ | with_reducible refine Blk.below ?_ hbo | with_reducible refine Blk.next ?_ | with_reducible refine Blk.dr ?_ | with_reducible refine bel_dr ?_ | with_reducible refine bel_set3 ?_ ?_ _ _ _ | with_reducible refine bel_trans ?_ hbo | with_reducible refine bel_next ?_ | with_reducible refine RdD.set3z ?_ ?_ _ _ _ | with_reducible refine RdN.set3z ?_ ?_ _ _ _ | with_reducible refine RdD.below ?_ hbo | with_reducible refine RdN.below ?_ hbo | with_reducible refine RdD.below ?_ (below_alloc _ _) | with_reducible refine RdN.below ?_ (below_alloc _ _) | ((try simp only [size_alloc, size_drew]); omega)))); (case h2 => (repeat' (first | with_reducible assumption | with_reducible exact blk_new | with_reducible exact blk_a2 | with_reducible exact Below.refl _ _ | with_reducible refine Blk.set3z ?_ _ _ _ | with_reducible refine Blk.other3 ?_ ?_ _ _ _ | with_reducible refine Blk.next ?_ | with_reducible refine Blk.dr ?_ | with_reducible refine bel_dr ?_ | with_reducible refine bel_set3 ?_ ?_ _ _ _ | with_reducible refine bel_next ?_ | with_reducible refine RdD.set3z ?_ ?_ _ _ _ | with_reducible refine RdN.set3z ?_ ?_ _ _ _ | with_reducible refine RdD.below ?_ (below_alloc _ _) | with_reducible refine RdN.below ?_ (below_alloc _ _) | ((try simp only [size_alloc, size_drew]); omega)))); (case h3 => (repeat' (first | with_reducible assumption | with_reducible exact blk_new | with_reducible exact blk_a2 | with_reducible exact Below.refl _ _ | with_reducible refine Blk.set3z ?_ _ _ _ | with_reducible refine Blk.other3 ?_ ?_ _ _ _ | with_reducible refine Blk.below ?_ hbo | with_reducible refine Blk.next ?_ | with_reducible refine Blk.dr ?_ | with_reducible refine bel_dr ?_ | with_reducible refine bel_set3 ?_ ?_ _ _ _ | with_reducible refine bel_trans ?_ hbo | with_reducible refine bel_next ?_ | with_reducible refine RdD.set3z ?_ ?_ _ _ _ | with_reducible refine RdN.set3z ?_ ?_ _ _ _ | with_reducible refine RdD.below ?_ hbo | with_reducible refine RdN.below ?_ hbo | with_reducible refine RdD.below ?_ (below_alloc _ _) | with_reducible refine RdN.below ?_ (below_alloc _ _) | ((try simp only [size_alloc, size_drew]); omega)))); rintro e wm ⟨nm, mm, em, vm, rfl, om, rm, hbm⟩; have lm := hbm.size; (try simp only [size_drew] at lm); (try simp only [size_alloc] at lm); obtain ⟨am, km, rfl, -⟩ := rm.view;
              (first
                | (have O1 := N1.below hbm; have ic := O1.open3)
                | (have O1 : Blk wm wo.heap.size #[.bool false, .slice none 0 0, .int .i64 0] := blk_new.below hbm; have ic := O1.open3)
                | (have ic := (blk_new (w := wm) (c := #[.bool false, .slice none 0 0, .int .i64 0]) (T := 32)).open3)))
          | fail)
      all_goals
        go_wp2_with fail
        go_meet
        (try have ob1 := O1.1)
        refine ⟨_, _, _, am, km, _, rfl, ?_, ?_, ⟨by rw [om.1, oo.1], om.2.1⟩, ?_, ?_⟩ <;> (repeat' (first | with_reducible assumption | with_reducible exact blk_new | with_reducible exact blk_a2 | with_reducible exact Below.refl _ _ | with_reducible refine Blk.set3z ?_ _ _ _ | with_reducible refine Blk.other3 ?_ ?_ _ _ _ | with_reducible refine Blk.below ?_ hbo | with_reducible refine Blk.below ?_ hbm | with_reducible refine Blk.next ?_ | with_reducible refine Blk.dr ?_ | with_reducible refine bel_dr ?_ | with_reducible refine bel_set3 ?_ ?_ _ _ _ | with_reducible refine bel_trans ?_ hbo | with_reducible refine bel_trans ?_ hbm | with_reducible refine bel_next ?_ | with_reducible refine RdD.set3z ?_ ?_ _ _ _ | with_reducible refine RdN.set3z ?_ ?_ _ _ _ | with_reducible refine RdD.below ?_ hbo | with_reducible refine RdD.below ?_ hbm | with_reducible refine RdN.below ?_ hbo | with_reducible refine RdN.below ?_ hbm | with_reducible refine RdD.below ?_ (below_alloc _ _) | with_reducible refine RdN.below ?_ (below_alloc _ _) | ((try simp only [size_alloc, size_drew]); omega)))

    case rest =>
      obtain ⟨nB, mB, eB, aB, kB, bB, rfl, B1, rb, ob, lb, hb7⟩ := hcut
      generalize hwx : wc = w7 at *
      clear hwx
      have i7 := i6.below hb7
      have j7 := j6.below hb7
      have k7 := k6.below hb7
      have l7 := l6.below hb7
      have T7 := T6.below hb7
      have I7 := I6.below hb7
      have J7 := J6.below hb7
      have B7 := B6.trans (hb7.mono B6.size)

      have A7 := A1.below hb7
      have ra7 := ra.below hb7
      have LJ := Lib.hid lj; have LI := Lib.hid li
      clear i6 j6 k6 l6 g6 h6 T6 I6 J6 K6 A1 ra hb6 B6
      have lp := ln_pw lz n
      have f3 := Lib.hid (lx.le (ly.inv (y := pw n) (pw_pos _) (pw_neg n)) Rat.le_refl)
      have f4 := Lib.hid ((ly.inv (y := pw n) (pw_pos _) (pw_neg n)).le lx Rat.le_refl)
      have nx1 := Lib.hid (mx1.mono (show (10000 : Int) ≤ 20000 by omega)); have nx2 := Lib.hid (mx2.mono (show (10000 : Int) ≤ 20000 by omega))
      have my1' := Lib.hid my1; have my2' := Lib.hid my2
      by_cases hneg : n < 0
      · have dn : decide (n < 0) = true := decide_eq_true hneg
        rw [if_pos hneg, if_pos hneg] at lp
        have hna : ((n.natAbs : Nat) : Rat) = -(n : Rat) := by
          have : ((n.natAbs : Nat) : Int) = -n := by omega
          have h2 : (((n.natAbs : Nat) : Int) : Rat) = ((-n : Int) : Rat) := by rw [this]
          rw [Rat.intCast_neg] at h2
          exact h2
        rw [hna] at lp
        have f1 := Lib.hid (show qv ⟨n1, m1, e1⟩ ≤ qv ⟨nA, mA, eA⟩ by
          have h := lx.le lp Rat.le_refl
          rw [oa.1]; grind)
        have f2 := Lib.hid (show qv ⟨nB, mB, eB⟩ ≤ qv ⟨n2, m2, e2⟩ by
          have h := lp.le lx Rat.le_refl
          rw [ob.1]; grind)
        have oA := Lib.hid oa.2; have oB := Lib.hid ob.2
        clear lx ly lz lp mx1 mx2 my1 my2 mz1 mz2 hna oa ob
        have neAB : bA ≠ bB := by omega
        have neBA : bB ≠ bA := by omega
        have hAB := Lib.hid neAB; have hBA := Lib.hid neBA
        obtain ⟨cA0_9, cA1_9, cA2_9, fA0_9, fA1_9, fA2_9, sA_9⟩ := A7.open3
        obtain ⟨cB0_9, cB1_9, cB2_9, fB0_9, fB1_9, fB2_9, sB_9⟩ := B1.open3
        have Bx := B1.other3 neBA (.bool nB) (.slice aB (digs BB mB).length kB) (.int .i64 eB)
        obtain ⟨kc0, kc1, kc2, kf0, kf1, kf2, -⟩ := Bx.open3
        clear neAB neBA
        go_upto_region 13 with fail
        have A8 := (A7.set3 (.bool nB) (.slice aB (digs BB mB).length kB) (.int .i64 eB)).other3 hAB.out (.bool nA) (.slice aA (digs BB mA).length kA) (.int .i64 eA)
        have B8' := Bx.set3 (.bool nA) (.slice aA (digs BB mA).length kA) (.int .i64 eA)
        have LI' := LI.out; have LJ' := LJ.out
        have sw := hb7.size
        have I8 := (I7.other3 (show bi ≠ bA by omega) (.bool nB) (.slice aB (digs BB mB).length kB) (.int .i64 eB)).other3 (show bi ≠ bB by omega) (.bool nA) (.slice aA (digs BB mA).length kA) (.int .i64 eA)
        have J8 := (J7.other3 (show bj ≠ bA by omega) (.bool nB) (.slice aB (digs BB mB).length kB) (.int .i64 eB)).other3 (show bj ≠ bB by omega) (.bool nA) (.slice aA (digs BB mA).length kA) (.int .i64 eA)
        have i8 := (i7.set3 A7 dcells (.bool nB) (.slice aB (digs BB mB).length kB) (.int .i64 eB)).set3 Bx dcells (.bool nA) (.slice aA (digs BB mA).length kA) (.int .i64 eA)
        have j8 := (j7.set3 A7 dcells (.bool nB) (.slice aB (digs BB mB).length kB) (.int .i64 eB)).set3 Bx dcells (.bool nA) (.slice aA (digs BB mA).length kA) (.int .i64 eA)
        have k8 := (k7.set3 A7 dcells (.bool nB) (.slice aB (digs BB mB).length kB) (.int .i64 eB)).set3 Bx dcells (.bool nA) (.slice aA (digs BB mA).length kA) (.int .i64 eA)
        have l8 := (l7.set3 A7 dcells (.bool nB) (.slice aB (digs BB mB).length kB) (.int .i64 eB)).set3 Bx dcells (.bool nA) (.slice aA (digs BB mA).length kA) (.int .i64 eA)
        have ra8 := (ra7.set3 A7 dcells (.bool nB) (.slice aB (digs BB mB).length kB) (.int .i64 eB)).set3 Bx dcells (.bool nA) (.slice aA (digs BB mA).length kA) (.int .i64 eA)
        have rb8 := (rb.set3 A7 dcells (.bool nB) (.slice aB (digs BB mB).length kB) (.int .i64 eB)).set3 Bx dcells (.bool nA) (.slice aA (digs BB mA).length kA) (.int .i64 eA)
        have T8 := (T7.set3 (show 0 ≠ bA by have := Hg.out; omega) (.bool nB) (.slice aB (digs BB mB).length kB) (.int .i64 eB)).set3 (show 0 ≠ bB by have := Hg.out; omega) (.bool nA) (.slice aA (digs BB mA).length kA) (.int .i64 eA)
        have B8 := below_set3b (below_set3b B7 (show w.heap.size ≤ bA by have := HB5.out; omega) (.bool nB) (.slice aB (digs BB mB).length kB) (.int .i64 eB)) (show w.heap.size ≤ bB by have := HB5.out; omega) (.bool nA) (.slice aA (digs BB mA).length kA) (.int .i64 eA)
        clear A7 B1 I7 J7 i7 j7 k7 l7 ra7 rb T7 B7 Bx kc0 kc1 kc2 kf0 kf1 kf2 cA0_9 cA1_9 cA2_9 fA0_9 fA1_9 fA2_9 sA_9 cB0_9 cB1_9 cB2_9 fB0_9 fB1_9 fB2_9 sB_9
        generalize (((((w7.setCell ⟨bA, 0, none⟩ (.bool nB)).setCell ⟨bA, 1, none⟩ (.slice aB (digs BB mB).length kB)).setCell ⟨bA, 2, none⟩ (.int .i64 eB)).setCell ⟨bB, 0, none⟩ (.bool nA)).setCell ⟨bB, 1, none⟩ (.slice aA (digs BB mA).length kA)).setCell ⟨bB, 2, none⟩ (.int .i64 eA) = w8 at *
        go_cut [17, 18] (fun v17 v18 w' => ∃ nC mC eC aC kC bC nD mD eD aD kD bD, v17 = .pointer (some ⟨bC, 0, none⟩) ∧ v18 = .pointer (some ⟨bD, 0, none⟩) ∧ Blk w' bC #[.bool nC, .slice aC (digs BB mC).length kC, .int .i64 eC] ∧ RdN w' (.slice aC (digs BB mC).length kC) (digs BB mC) ∧ Blk w' bD #[.bool nD, .slice aD (digs BB mD).length kD, .int .i64 eD] ∧ RdN w' (.slice aD (digs BB mD).length kD) (digs BB mD) ∧ (qv ⟨nC, mC, eC⟩ = -qv ⟨n4, m4, e4⟩ ∧ Mid 10000 ⟨nC, mC, eC⟩) ∧ (qv ⟨nD, mD, eD⟩ = -qv ⟨n3, m3, e3⟩ ∧ Mid 10000 ⟨nD, mD, eD⟩) ∧ Below w8.heap.size w8 w')
        case first =>
          have sJ : bj < w8.heap.size := J8.1
          go_region_held3 (fun w' => w'.cell? ⟨bj, 0, none⟩ = some (.bool n3) ∧ w'.cell? ⟨bj, 1, none⟩ = some (.slice ak11 (digs BB m3).length kk11) ∧ w'.cell? ⟨bj, 2, none⟩ = some (.int .i64 e3) ∧ w'.cell? ⟨bj, 3, none⟩ = some (.bool n4) ∧ w'.cell? ⟨bj, 4, none⟩ = some (.slice al11 (digs BB m4).length kl11) ∧ w'.cell? ⟨bj, 5, none⟩ = some (.int .i64 e4))
            (refine cells36 ?_ <;> (repeat' (first | with_reducible assumption | with_reducible exact blk_new | with_reducible exact blk_a2 | with_reducible exact Below.refl _ _ | with_reducible refine Blk.set3z ?_ _ _ _ | with_reducible refine Blk.other3 ?_ ?_ _ _ _ | with_reducible refine Blk.below ?_ hbx | with_reducible refine Blk.below ?_ hbz | with_reducible refine Blk.next ?_ | with_reducible refine Blk.dr ?_ | with_reducible refine bel_dr ?_ | with_reducible refine bel_set3 ?_ ?_ _ _ _ | with_reducible refine bel_trans ?_ hbx | with_reducible refine bel_trans ?_ hbz | with_reducible refine bel_next ?_ | with_reducible refine RdD.set3z ?_ ?_ _ _ _ | with_reducible refine RdN.set3z ?_ ?_ _ _ _ | with_reducible refine RdD.below ?_ hbx | with_reducible refine RdD.below ?_ hbz | with_reducible refine RdN.below ?_ hbx | with_reducible refine RdN.below ?_ hbz | with_reducible refine RdD.below ?_ (below_alloc _ _) | with_reducible refine RdN.below ?_ (below_alloc _ _) | ((try simp only [size_alloc, size_drew]); omega))))
            (first
              | (go_at_call 32; (with_reducible refine (HMI.out _ _ _ _ _ (RdN.below l8 ?h1) (Tab.below T8 ?h2) my2'.out).mono ?_); (case h1 => (repeat' (first | with_reducible assumption | with_reducible exact blk_new | with_reducible exact blk_a2 | with_reducible exact Below.refl _ _ | with_reducible refine Blk.set3z ?_ _ _ _ | with_reducible refine Blk.other3 ?_ ?_ _ _ _ | with_reducible refine Blk.next ?_ | with_reducible refine Blk.dr ?_ | with_reducible refine bel_dr ?_ | with_reducible refine bel_set3 ?_ ?_ _ _ _ | with_reducible refine bel_next ?_ | with_reducible refine RdD.set3z ?_ ?_ _ _ _ | with_reducible refine RdN.set3z ?_ ?_ _ _ _ | with_reducible refine RdD.below ?_ (below_alloc _ _) | with_reducible refine RdN.below ?_ (below_alloc _ _) | ((try simp only [size_alloc, size_drew]); omega)))); (case h2 => (repeat' (first | with_reducible assumption | with_reducible exact blk_new | with_reducible exact blk_a2 | with_reducible exact Below.refl _ _ | with_reducible refine Blk.set3z ?_ _ _ _ | with_reducible refine Blk.other3 ?_ ?_ _ _ _ | with_reducible refine Blk.next ?_ | with_reducible refine Blk.dr ?_ | with_reducible refine bel_dr ?_ | with_reducible refine bel_set3 ?_ ?_ _ _ _ | with_reducible refine bel_next ?_ | with_reducible refine RdD.set3z ?_ ?_ _ _ _ | with_reducible refine RdN.set3z ?_ ?_ _ _ _ | with_reducible refine RdD.below ?_ (below_alloc _ _) | with_reducible refine RdN.below ?_ (below_alloc _ _) | ((try simp only [size_alloc, size_drew]); omega)))); rintro e wx ⟨nx, mx, ex, vx, rfl, px, rx, hbx⟩; have sx := hbx.size; (try simp only [size_drew] at sx); (try simp only [size_alloc] at sx); obtain ⟨ax, kx, rfl, -⟩ := rx.view;
                  (first
                    | (have N2 : Blk wx (w8.heap.size + 1) #[.bool false, .slice none 0 0, .int .i64 0] := (Blk.dr blk_a2).below hbx; have N1 : Blk wx w8.heap.size #[.bool false, .slice none 0 0, .int .i64 0] := (Blk.dr blk_a1).below hbx; have sn1 := N1.1)
                    | (have N1 : Blk wx w8.heap.size #[.bool false, .slice none 0 0, .int .i64 0] := (Blk.dr blk_new).below hbx; have sn1 := N1.1)
                    | skip))
              | (go_at_call 32; (with_reducible refine (HMI.out _ _ _ _ _ (RdN.below k8 ?h1) (Tab.below T8 ?h2) my1'.out).mono ?_); (case h1 => (repeat' (first | with_reducible assumption | with_reducible exact blk_new | with_reducible exact blk_a2 | with_reducible exact Below.refl _ _ | with_reducible refine Blk.set3z ?_ _ _ _ | with_reducible refine Blk.other3 ?_ ?_ _ _ _ | with_reducible refine Blk.below ?_ hbx | with_reducible refine Blk.next ?_ | with_reducible refine Blk.dr ?_ | with_reducible refine bel_dr ?_ | with_reducible refine bel_set3 ?_ ?_ _ _ _ | with_reducible refine bel_trans ?_ hbx | with_reducible refine bel_next ?_ | with_reducible refine RdD.set3z ?_ ?_ _ _ _ | with_reducible refine RdN.set3z ?_ ?_ _ _ _ | with_reducible refine RdD.below ?_ hbx | with_reducible refine RdN.below ?_ hbx | with_reducible refine RdD.below ?_ (below_alloc _ _) | with_reducible refine RdN.below ?_ (below_alloc _ _) | ((try simp only [size_alloc, size_drew]); omega)))); (case h2 => (repeat' (first | with_reducible assumption | with_reducible exact blk_new | with_reducible exact blk_a2 | with_reducible exact Below.refl _ _ | with_reducible refine Blk.set3z ?_ _ _ _ | with_reducible refine Blk.other3 ?_ ?_ _ _ _ | with_reducible refine Blk.below ?_ hbx | with_reducible refine Blk.next ?_ | with_reducible refine Blk.dr ?_ | with_reducible refine bel_dr ?_ | with_reducible refine bel_set3 ?_ ?_ _ _ _ | with_reducible refine bel_trans ?_ hbx | with_reducible refine bel_next ?_ | with_reducible refine RdD.set3z ?_ ?_ _ _ _ | with_reducible refine RdN.set3z ?_ ?_ _ _ _ | with_reducible refine RdD.below ?_ hbx | with_reducible refine RdN.below ?_ hbx | with_reducible refine RdD.below ?_ (below_alloc _ _) | with_reducible refine RdN.below ?_ (below_alloc _ _) | ((try simp only [size_alloc, size_drew]); omega)))); rintro e wz ⟨nz, mz, ez, vz, rfl, pz, rz, hbz⟩; have sz := hbz.size; (try simp only [size_drew] at sz); (try simp only [size_alloc] at sz); obtain ⟨az, kz, rfl, -⟩ := rz.view;
                  (first
                    | (have O1 := N1.below hbz; have O2 := N2.below hbz)
                    | (have O1 := N1.next.below hbz; have O2 : Blk wz wx.heap.size #[.bool false, .slice none 0 0, .int .i64 0] := blk_new.below hbz)
                    | (have O1 := N1.below hbz)
                    | (have O1 : Blk wz wx.heap.size #[.bool false, .slice none 0 0, .int .i64 0] := blk_a1.below hbz; have O2 : Blk wz (wx.heap.size + 1) #[.bool false, .slice none 0 0, .int .i64 0] := blk_a2.below hbz)
                    | (have O1 : Blk wz wx.heap.size #[.bool false, .slice none 0 0, .int .i64 0] := blk_new.below hbz)
                    | skip);
                  (first
                    | (have i1 := O1.open3; have i2 := O2.open3; have i3 := fun x y z => (O1.otherOf O2 (by omega) x y z).open3; have i4 := fun x y z => (O2.otherOf O1 (by omega) x y z).open3)
                    | (have i1 := fun o => (O1.next (o := o)).open3; have i2 := fun x y z => (Blk.other3 (blk_new (w := wz) (c := #[.bool false, .slice none 0 0, .int .i64 0]) (T := 32)) (Nat.ne_of_gt O1.1) x y z).open3)
                    | (have i1 := fun o => (blk_a1 (w := wz) (c := #[.bool false, .slice none 0 0, .int .i64 0]) (T := 32) (o := o)).open3; have i2 := fun o => (blk_a2 (w := wz) (c := #[.bool false, .slice none 0 0, .int .i64 0]) (T := 32) (o := o)).open3; have i3 := fun x y z => (Blk.other3 (blk_a2 (w := wz) (c := #[.bool false, .slice none 0 0, .int .i64 0]) (T := 32) (o := (.cells #[.bool false, .slice none 0 0, .int .i64 0] 32 (0, 0)))) (Nat.succ_ne_self wz.heap.size) x y z).open3)))
              | fail)
          all_goals
            go_wp2_with fail
            go_meet
            (try have ob1 := O1.1)
            (try have ob2 := O2.1)
            refine ⟨nx, mx, ex, ax, kx, _, nz, mz, ez, az, kz, _, rfl, rfl, ?_, ?_, ?_, ?_, ⟨px.1, px.2.1⟩, ⟨pz.1, pz.2.1⟩, ?_⟩ <;> (repeat' (first | with_reducible assumption | with_reducible exact blk_new | with_reducible exact blk_a2 | with_reducible exact Below.refl _ _ | with_reducible refine Blk.set3z ?_ _ _ _ | with_reducible refine Blk.other3 ?_ ?_ _ _ _ | with_reducible refine Blk.below ?_ hbx | with_reducible refine Blk.below ?_ hbz | with_reducible refine Blk.next ?_ | with_reducible refine Blk.dr ?_ | with_reducible refine bel_dr ?_ | with_reducible refine bel_set3 ?_ ?_ _ _ _ | with_reducible refine bel_trans ?_ hbx | with_reducible refine bel_trans ?_ hbz | with_reducible refine bel_next ?_ | with_reducible refine RdD.set3z ?_ ?_ _ _ _ | with_reducible refine RdN.set3z ?_ ?_ _ _ _ | with_reducible refine RdD.below ?_ hbx | with_reducible refine RdD.below ?_ hbz | with_reducible refine RdN.below ?_ hbx | with_reducible refine RdN.below ?_ hbz | with_reducible refine RdD.below ?_ (below_alloc _ _) | with_reducible refine RdN.below ?_ (below_alloc _ _) | ((try simp only [size_alloc, size_drew]); omega)))
        case rest =>
          obtain ⟨nC, mC, eC, aC, kC, bC, nD, mD, eD, aD, kD, bD, rfl, rfl, C9, rc, D9, rd, oc, od, hb9⟩ := hcut
          generalize hwx : wc = w9 at *
          clear hwx
          have i9 := i8.below hb9; have j9 := j8.below hb9; have T9 := T8.below hb9; have I9 := I8.below hb9; have B9 := B8.trans (hb9.mono B8.size)
          have X9 := A8.below hb9; have Y9 := B8'.below hb9; have u9 := rb8.below hb9; have v9 := ra8.below hb9
          have f5 := Lib.hid (show qv ⟨nC, mC, eC⟩ ≤ qv ⟨n2, m2, e2⟩ by rw [oc.1]; exact f4.out)
          have f6 := Lib.hid (show qv ⟨n1, m1, e1⟩ ≤ qv ⟨nD, mD, eD⟩ by rw [od.1]; exact f3.out)
          have oC := Lib.hid (oc.2.mono (show (10000 : Int) ≤ 20000 by omega)); have oD := Lib.hid (od.2.mono (show (10000 : Int) ≤ 20000 by omega))
          clear oc od i8 j8 k8 l8 T8 I8 J8 A8 B8' rb8 ra8
          obtain ⟨cI0_9, cI1_9, cI2_9, cI3_9, cI4_9, cI5_9, fI0_9, fI1_9, fI2_9, fI3_9, fI4_9, fI5_9, sI_9⟩ := I9.open6
          obtain ⟨cX0_9, cX1_9, cX2_9, fX0_9, fX1_9, fX2_9, sX_9⟩ := X9.open3
          obtain ⟨cY0_9, cY1_9, cY2_9, fY0_9, fY1_9, fY2_9, sY_9⟩ := Y9.open3
          go_wp2_with
          (first
            | (go_at_call 28; (with_reducible refine (HCM.out _ _ _ _ _ _ _ _ _ i9 v9 T9 nx1.out oA.out f1.out).mono ?_); rintro e w41 ⟨c1, rfl, dc1, dd1, hb41⟩; have B41 := B9.trans (hb41.mono B9.size); have i41 := i9.below hb41; have j41 := j9.below hb41; have u41 := u9.below hb41; have v41 := v9.below hb41; have c41 := rc.below hb41; have d41 := rd.below hb41; have T41 := T9.below hb41; have I41 := I9.below hb41; have X41 := X9.below hb41; have Y41 := Y9.below hb41; have U41 := C9.below hb41; have V41 := D9.below hb41; clear i9 j9 u9 v9 rc rd T9 I9 X9 Y9 C9 D9; obtain ⟨cI0_41, cI1_41, cI2_41, cI3_41, cI4_41, cI5_41, fI0_41, fI1_41, fI2_41, fI3_41, fI4_41, fI5_41, sI_41⟩ := I41.open6; obtain ⟨cX0_41, cX1_41, cX2_41, fX0_41, fX1_41, fX2_41, sX_41⟩ := X41.open3; obtain ⟨cY0_41, cY1_41, cY2_41, fY0_41, fY1_41, fY2_41, sY_41⟩ := Y41.open3; obtain ⟨cU0_41, cU1_41, cU2_41, fU0_41, fU1_41, fU2_41, sU_41⟩ := U41.open3; obtain ⟨cV0_41, cV1_41, cV2_41, fV0_41, fV1_41, fV2_41, sV_41⟩ := V41.open3)
            | (go_at_call 28; (with_reducible refine (HCM.out _ _ _ _ _ _ _ _ _ u41 j41 T41 oB.out nx2.out f2.out).mono ?_); rintro e w42 ⟨c2, rfl, dc2, dd2, hb42⟩; have B42 := B41.trans (hb42.mono B41.size); have i42 := i41.below hb42; have j42 := j41.below hb42; have u42 := u41.below hb42; have v42 := v41.below hb42; have c42 := c41.below hb42; have d42 := d41.below hb42; have T42 := T41.below hb42; have I42 := I41.below hb42; have X42 := X41.below hb42; have Y42 := Y41.below hb42; have U42 := U41.below hb42; have V42 := V41.below hb42; clear i41 j41 u41 v41 c41 d41 T41 I41 X41 Y41 U41 V41; clear cI0_41 cI1_41 cI2_41 cI3_41 cI4_41 cI5_41 fI0_41 fI1_41 fI2_41 fI3_41 fI4_41 fI5_41 sI_41; obtain ⟨cI0_42, cI1_42, cI2_42, cI3_42, cI4_42, cI5_42, fI0_42, fI1_42, fI2_42, fI3_42, fI4_42, fI5_42, sI_42⟩ := I42.open6; clear cX0_41 cX1_41 cX2_41 fX0_41 fX1_41 fX2_41 sX_41; obtain ⟨cX0_42, cX1_42, cX2_42, fX0_42, fX1_42, fX2_42, sX_42⟩ := X42.open3; clear cY0_41 cY1_41 cY2_41 fY0_41 fY1_41 fY2_41 sY_41; obtain ⟨cY0_42, cY1_42, cY2_42, fY0_42, fY1_42, fY2_42, sY_42⟩ := Y42.open3; clear cU0_41 cU1_41 cU2_41 fU0_41 fU1_41 fU2_41 sU_41; obtain ⟨cU0_42, cU1_42, cU2_42, fU0_42, fU1_42, fU2_42, sU_42⟩ := U42.open3; clear cV0_41 cV1_41 cV2_41 fV0_41 fV1_41 fV2_41 sV_41; obtain ⟨cV0_42, cV1_42, cV2_42, fV0_42, fV1_42, fV2_42, sV_42⟩ := V42.open3)
            | (go_at_call 28; (with_reducible refine (HCM.out _ _ _ _ _ _ _ _ _ c42 j42 T42 oC.out nx2.out f5.out).mono ?_); rintro e w43 ⟨c3, rfl, dc3, dd3, hb43⟩; have B43 := B42.trans (hb43.mono B42.size); have i43 := i42.below hb43; have j43 := j42.below hb43; have u43 := u42.below hb43; have v43 := v42.below hb43; have c43 := c42.below hb43; have d43 := d42.below hb43; have T43 := T42.below hb43; have I43 := I42.below hb43; have X43 := X42.below hb43; have Y43 := Y42.below hb43; have U43 := U42.below hb43; have V43 := V42.below hb43; clear i42 j42 u42 v42 c42 d42 T42 I42 X42 Y42 U42 V42; clear cI0_42 cI1_42 cI2_42 cI3_42 cI4_42 cI5_42 fI0_42 fI1_42 fI2_42 fI3_42 fI4_42 fI5_42 sI_42; obtain ⟨cI0_43, cI1_43, cI2_43, cI3_43, cI4_43, cI5_43, fI0_43, fI1_43, fI2_43, fI3_43, fI4_43, fI5_43, sI_43⟩ := I43.open6; clear cX0_42 cX1_42 cX2_42 fX0_42 fX1_42 fX2_42 sX_42; obtain ⟨cX0_43, cX1_43, cX2_43, fX0_43, fX1_43, fX2_43, sX_43⟩ := X43.open3; clear cY0_42 cY1_42 cY2_42 fY0_42 fY1_42 fY2_42 sY_42; obtain ⟨cY0_43, cY1_43, cY2_43, fY0_43, fY1_43, fY2_43, sY_43⟩ := Y43.open3; clear cU0_42 cU1_42 cU2_42 fU0_42 fU1_42 fU2_42 sU_42; obtain ⟨cU0_43, cU1_43, cU2_43, fU0_43, fU1_43, fU2_43, sU_43⟩ := U43.open3; clear cV0_42 cV1_42 cV2_42 fV0_42 fV1_42 fV2_42 sV_42; obtain ⟨cV0_43, cV1_43, cV2_43, fV0_43, fV1_43, fV2_43, sV_43⟩ := V43.open3)
            | (go_at_call 28; (with_reducible refine (HCM.out _ _ _ _ _ _ _ _ _ i43 d43 T43 nx1.out oD.out f6.out).mono ?_); rintro e w44 ⟨c4, rfl, dc4, dd4, hb44⟩; have B44 := B43.trans (hb44.mono B43.size); have i44 := i43.below hb44; have j44 := j43.below hb44; have u44 := u43.below hb44; have v44 := v43.below hb44; have c44 := c43.below hb44; have d44 := d43.below hb44; have T44 := T43.below hb44; have I44 := I43.below hb44; have X44 := X43.below hb44; have Y44 := Y43.below hb44; have U44 := U43.below hb44; have V44 := V43.below hb44; clear i43 j43 u43 v43 c43 d43 T43 I43 X43 Y43 U43 V43; clear cI0_43 cI1_43 cI2_43 cI3_43 cI4_43 cI5_43 fI0_43 fI1_43 fI2_43 fI3_43 fI4_43 fI5_43 sI_43; obtain ⟨cI0_44, cI1_44, cI2_44, cI3_44, cI4_44, cI5_44, fI0_44, fI1_44, fI2_44, fI3_44, fI4_44, fI5_44, sI_44⟩ := I44.open6; clear cX0_43 cX1_43 cX2_43 fX0_43 fX1_43 fX2_43 sX_43; obtain ⟨cX0_44, cX1_44, cX2_44, fX0_44, fX1_44, fX2_44, sX_44⟩ := X44.open3; clear cY0_43 cY1_43 cY2_43 fY0_43 fY1_43 fY2_43 sY_43; obtain ⟨cY0_44, cY1_44, cY2_44, fY0_44, fY1_44, fY2_44, sY_44⟩ := Y44.open3; clear cU0_43 cU1_43 cU2_43 fU0_43 fU1_43 fU2_43 sU_43; obtain ⟨cU0_44, cU1_44, cU2_44, fU0_44, fU1_44, fU2_44, sU_44⟩ := U44.open3; clear cV0_43 cV1_43 cV2_43 fV0_43 fV1_43 fV2_43 sV_43; obtain ⟨cV0_44, cV1_44, cV2_44, fV0_44, fV1_44, fV2_44, sV_44⟩ := V44.open3)
            | fail)
          go_ret
          exact ⟨rfl, by assumption⟩
      · have dn : decide (n < 0) = false := decide_eq_false hneg
        rw [if_neg hneg, if_neg hneg] at lp
        have hna : ((n.natAbs : Nat) : Rat) = (n : Rat) := by
          have : ((n.natAbs : Nat) : Int) = n := by omega
          have h2 : (((n.natAbs : Nat) : Int) : Rat) = (n : Rat) := by rw [this]
          exact h2
        rw [hna] at lp
        have f1 := Lib.hid (show qv ⟨n1, m1, e1⟩ ≤ qv ⟨nB, mB, eB⟩ by rw [ob.1, Rat.mul_comm]; exact lx.le lp Rat.le_refl)
        have f2 := Lib.hid (show qv ⟨nA, mA, eA⟩ ≤ qv ⟨n2, m2, e2⟩ by rw [oa.1, Rat.mul_comm]; exact lp.le lx Rat.le_refl)
        have oA := Lib.hid oa.2; have oB := Lib.hid ob.2
        clear lx ly lz lp mx1 mx2 my1 my2 mz1 mz2 hna oa ob
        go_upto_region 13 with fail
        go_cut [17, 18] (fun v17 v18 w' => ∃ nC mC eC aC kC bC nD mD eD aD kD bD, v17 = .pointer (some ⟨bC, 0, none⟩) ∧ v18 = .pointer (some ⟨bD, 0, none⟩) ∧ Blk w' bC #[.bool nC, .slice aC (digs BB mC).length kC, .int .i64 eC] ∧ RdN w' (.slice aC (digs BB mC).length kC) (digs BB mC) ∧ Blk w' bD #[.bool nD, .slice aD (digs BB mD).length kD, .int .i64 eD] ∧ RdN w' (.slice aD (digs BB mD).length kD) (digs BB mD) ∧ (qv ⟨nC, mC, eC⟩ = -qv ⟨n4, m4, e4⟩ ∧ Mid 10000 ⟨nC, mC, eC⟩) ∧ (qv ⟨nD, mD, eD⟩ = -qv ⟨n3, m3, e3⟩ ∧ Mid 10000 ⟨nD, mD, eD⟩) ∧ Below w7.heap.size w7 w')
        case first =>
          have sJ : bj < w7.heap.size := J7.1
          go_region_held3 (fun w' => w'.cell? ⟨bj, 0, none⟩ = some (.bool n3) ∧ w'.cell? ⟨bj, 1, none⟩ = some (.slice ak11 (digs BB m3).length kk11) ∧ w'.cell? ⟨bj, 2, none⟩ = some (.int .i64 e3) ∧ w'.cell? ⟨bj, 3, none⟩ = some (.bool n4) ∧ w'.cell? ⟨bj, 4, none⟩ = some (.slice al11 (digs BB m4).length kl11) ∧ w'.cell? ⟨bj, 5, none⟩ = some (.int .i64 e4))
            (refine cells36 ?_ <;> (repeat' (first | with_reducible assumption | with_reducible exact blk_new | with_reducible exact blk_a2 | with_reducible exact Below.refl _ _ | with_reducible refine Blk.set3z ?_ _ _ _ | with_reducible refine Blk.other3 ?_ ?_ _ _ _ | with_reducible refine Blk.below ?_ hbx | with_reducible refine Blk.below ?_ hbz | with_reducible refine Blk.next ?_ | with_reducible refine Blk.dr ?_ | with_reducible refine bel_dr ?_ | with_reducible refine bel_set3 ?_ ?_ _ _ _ | with_reducible refine bel_trans ?_ hbx | with_reducible refine bel_trans ?_ hbz | with_reducible refine bel_next ?_ | with_reducible refine RdD.set3z ?_ ?_ _ _ _ | with_reducible refine RdN.set3z ?_ ?_ _ _ _ | with_reducible refine RdD.below ?_ hbx | with_reducible refine RdD.below ?_ hbz | with_reducible refine RdN.below ?_ hbx | with_reducible refine RdN.below ?_ hbz | with_reducible refine RdD.below ?_ (below_alloc _ _) | with_reducible refine RdN.below ?_ (below_alloc _ _) | ((try simp only [size_alloc, size_drew]); omega))))
            (first
              | (go_at_call 32; (with_reducible refine (HMI.out _ _ _ _ _ (RdN.below l7 ?h1) (Tab.below T7 ?h2) my2'.out).mono ?_); (case h1 => (repeat' (first | with_reducible assumption | with_reducible exact blk_new | with_reducible exact blk_a2 | with_reducible exact Below.refl _ _ | with_reducible refine Blk.set3z ?_ _ _ _ | with_reducible refine Blk.other3 ?_ ?_ _ _ _ | with_reducible refine Blk.next ?_ | with_reducible refine Blk.dr ?_ | with_reducible refine bel_dr ?_ | with_reducible refine bel_set3 ?_ ?_ _ _ _ | with_reducible refine bel_next ?_ | with_reducible refine RdD.set3z ?_ ?_ _ _ _ | with_reducible refine RdN.set3z ?_ ?_ _ _ _ | with_reducible refine RdD.below ?_ (below_alloc _ _) | with_reducible refine RdN.below ?_ (below_alloc _ _) | ((try simp only [size_alloc, size_drew]); omega)))); (case h2 => (repeat' (first | with_reducible assumption | with_reducible exact blk_new | with_reducible exact blk_a2 | with_reducible exact Below.refl _ _ | with_reducible refine Blk.set3z ?_ _ _ _ | with_reducible refine Blk.other3 ?_ ?_ _ _ _ | with_reducible refine Blk.next ?_ | with_reducible refine Blk.dr ?_ | with_reducible refine bel_dr ?_ | with_reducible refine bel_set3 ?_ ?_ _ _ _ | with_reducible refine bel_next ?_ | with_reducible refine RdD.set3z ?_ ?_ _ _ _ | with_reducible refine RdN.set3z ?_ ?_ _ _ _ | with_reducible refine RdD.below ?_ (below_alloc _ _) | with_reducible refine RdN.below ?_ (below_alloc _ _) | ((try simp only [size_alloc, size_drew]); omega)))); rintro e wx ⟨nx, mx, ex, vx, rfl, px, rx, hbx⟩; have sx := hbx.size; (try simp only [size_drew] at sx); (try simp only [size_alloc] at sx); obtain ⟨ax, kx, rfl, -⟩ := rx.view;
                  (first
                    | (have N2 : Blk wx (w7.heap.size + 1) #[.bool false, .slice none 0 0, .int .i64 0] := (Blk.dr blk_a2).below hbx; have N1 : Blk wx w7.heap.size #[.bool false, .slice none 0 0, .int .i64 0] := (Blk.dr blk_a1).below hbx; have sn1 := N1.1)
                    | (have N1 : Blk wx w7.heap.size #[.bool false, .slice none 0 0, .int .i64 0] := (Blk.dr blk_new).below hbx; have sn1 := N1.1)
                    | skip))
              | (go_at_call 32; (with_reducible refine (HMI.out _ _ _ _ _ (RdN.below k7 ?h1) (Tab.below T7 ?h2) my1'.out).mono ?_); (case h1 => (repeat' (first | with_reducible assumption | with_reducible exact blk_new | with_reducible exact blk_a2 | with_reducible exact Below.refl _ _ | with_reducible refine Blk.set3z ?_ _ _ _ | with_reducible refine Blk.other3 ?_ ?_ _ _ _ | with_reducible refine Blk.below ?_ hbx | with_reducible refine Blk.next ?_ | with_reducible refine Blk.dr ?_ | with_reducible refine bel_dr ?_ | with_reducible refine bel_set3 ?_ ?_ _ _ _ | with_reducible refine bel_trans ?_ hbx | with_reducible refine bel_next ?_ | with_reducible refine RdD.set3z ?_ ?_ _ _ _ | with_reducible refine RdN.set3z ?_ ?_ _ _ _ | with_reducible refine RdD.below ?_ hbx | with_reducible refine RdN.below ?_ hbx | with_reducible refine RdD.below ?_ (below_alloc _ _) | with_reducible refine RdN.below ?_ (below_alloc _ _) | ((try simp only [size_alloc, size_drew]); omega)))); (case h2 => (repeat' (first | with_reducible assumption | with_reducible exact blk_new | with_reducible exact blk_a2 | with_reducible exact Below.refl _ _ | with_reducible refine Blk.set3z ?_ _ _ _ | with_reducible refine Blk.other3 ?_ ?_ _ _ _ | with_reducible refine Blk.below ?_ hbx | with_reducible refine Blk.next ?_ | with_reducible refine Blk.dr ?_ | with_reducible refine bel_dr ?_ | with_reducible refine bel_set3 ?_ ?_ _ _ _ | with_reducible refine bel_trans ?_ hbx | with_reducible refine bel_next ?_ | with_reducible refine RdD.set3z ?_ ?_ _ _ _ | with_reducible refine RdN.set3z ?_ ?_ _ _ _ | with_reducible refine RdD.below ?_ hbx | with_reducible refine RdN.below ?_ hbx | with_reducible refine RdD.below ?_ (below_alloc _ _) | with_reducible refine RdN.below ?_ (below_alloc _ _) | ((try simp only [size_alloc, size_drew]); omega)))); rintro e wz ⟨nz, mz, ez, vz, rfl, pz, rz, hbz⟩; have sz := hbz.size; (try simp only [size_drew] at sz); (try simp only [size_alloc] at sz); obtain ⟨az, kz, rfl, -⟩ := rz.view;
                  (first
                    | (have O1 := N1.below hbz; have O2 := N2.below hbz)
                    | (have O1 := N1.next.below hbz; have O2 : Blk wz wx.heap.size #[.bool false, .slice none 0 0, .int .i64 0] := blk_new.below hbz)
                    | (have O1 := N1.below hbz)
                    | (have O1 : Blk wz wx.heap.size #[.bool false, .slice none 0 0, .int .i64 0] := blk_a1.below hbz; have O2 : Blk wz (wx.heap.size + 1) #[.bool false, .slice none 0 0, .int .i64 0] := blk_a2.below hbz)
                    | (have O1 : Blk wz wx.heap.size #[.bool false, .slice none 0 0, .int .i64 0] := blk_new.below hbz)
                    | skip);
                  (first
                    | (have i1 := O1.open3; have i2 := O2.open3; have i3 := fun x y z => (O1.otherOf O2 (by omega) x y z).open3; have i4 := fun x y z => (O2.otherOf O1 (by omega) x y z).open3)
                    | (have i1 := fun o => (O1.next (o := o)).open3; have i2 := fun x y z => (Blk.other3 (blk_new (w := wz) (c := #[.bool false, .slice none 0 0, .int .i64 0]) (T := 32)) (Nat.ne_of_gt O1.1) x y z).open3)
                    | (have i1 := fun o => (blk_a1 (w := wz) (c := #[.bool false, .slice none 0 0, .int .i64 0]) (T := 32) (o := o)).open3; have i2 := fun o => (blk_a2 (w := wz) (c := #[.bool false, .slice none 0 0, .int .i64 0]) (T := 32) (o := o)).open3; have i3 := fun x y z => (Blk.other3 (blk_a2 (w := wz) (c := #[.bool false, .slice none 0 0, .int .i64 0]) (T := 32) (o := (.cells #[.bool false, .slice none 0 0, .int .i64 0] 32 (0, 0)))) (Nat.succ_ne_self wz.heap.size) x y z).open3)))
              | fail)
          all_goals
            go_wp2_with fail
            go_meet
            (try have ob1 := O1.1)
            (try have ob2 := O2.1)
            refine ⟨nx, mx, ex, ax, kx, _, nz, mz, ez, az, kz, _, rfl, rfl, ?_, ?_, ?_, ?_, ⟨px.1, px.2.1⟩, ⟨pz.1, pz.2.1⟩, ?_⟩ <;> (repeat' (first | with_reducible assumption | with_reducible exact blk_new | with_reducible exact blk_a2 | with_reducible exact Below.refl _ _ | with_reducible refine Blk.set3z ?_ _ _ _ | with_reducible refine Blk.other3 ?_ ?_ _ _ _ | with_reducible refine Blk.below ?_ hbx | with_reducible refine Blk.below ?_ hbz | with_reducible refine Blk.next ?_ | with_reducible refine Blk.dr ?_ | with_reducible refine bel_dr ?_ | with_reducible refine bel_set3 ?_ ?_ _ _ _ | with_reducible refine bel_trans ?_ hbx | with_reducible refine bel_trans ?_ hbz | with_reducible refine bel_next ?_ | with_reducible refine RdD.set3z ?_ ?_ _ _ _ | with_reducible refine RdN.set3z ?_ ?_ _ _ _ | with_reducible refine RdD.below ?_ hbx | with_reducible refine RdD.below ?_ hbz | with_reducible refine RdN.below ?_ hbx | with_reducible refine RdN.below ?_ hbz | with_reducible refine RdD.below ?_ (below_alloc _ _) | with_reducible refine RdN.below ?_ (below_alloc _ _) | ((try simp only [size_alloc, size_drew]); omega)))
        case rest =>
          obtain ⟨nC, mC, eC, aC, kC, bC, nD, mD, eD, aD, kD, bD, rfl, rfl, C9, rc, D9, rd, oc, od, hb9⟩ := hcut
          generalize hwx : wc = w9 at *
          clear hwx
          have i9 := i7.below hb9; have j9 := j7.below hb9; have T9 := T7.below hb9; have I9 := I7.below hb9; have B9 := B7.trans (hb9.mono B7.size)
          have X9 := A7.below hb9; have Y9 := B1.below hb9; have u9 := ra7.below hb9; have v9 := rb.below hb9
          have f5 := Lib.hid (show qv ⟨nC, mC, eC⟩ ≤ qv ⟨n2, m2, e2⟩ by rw [oc.1]; exact f4.out)
          have f6 := Lib.hid (show qv ⟨n1, m1, e1⟩ ≤ qv ⟨nD, mD, eD⟩ by rw [od.1]; exact f3.out)
          have oC := Lib.hid (oc.2.mono (show (10000 : Int) ≤ 20000 by omega)); have oD := Lib.hid (od.2.mono (show (10000 : Int) ≤ 20000 by omega))
          clear oc od i7 j7 k7 l7 T7 I7 J7 A7 B1 ra7 rb
          obtain ⟨cI0_9, cI1_9, cI2_9, cI3_9, cI4_9, cI5_9, fI0_9, fI1_9, fI2_9, fI3_9, fI4_9, fI5_9, sI_9⟩ := I9.open6
          obtain ⟨cX0_9, cX1_9, cX2_9, fX0_9, fX1_9, fX2_9, sX_9⟩ := X9.open3
          obtain ⟨cY0_9, cY1_9, cY2_9, fY0_9, fY1_9, fY2_9, sY_9⟩ := Y9.open3
          go_wp2_with
          (first
            | (go_at_call 28; (with_reducible refine (HCM.out _ _ _ _ _ _ _ _ _ i9 v9 T9 nx1.out oB.out f1.out).mono ?_); rintro e w41 ⟨c1, rfl, dc1, dd1, hb41⟩; have B41 := B9.trans (hb41.mono B9.size); have i41 := i9.below hb41; have j41 := j9.below hb41; have u41 := u9.below hb41; have v41 := v9.below hb41; have c41 := rc.below hb41; have d41 := rd.below hb41; have T41 := T9.below hb41; have I41 := I9.below hb41; have X41 := X9.below hb41; have Y41 := Y9.below hb41; have U41 := C9.below hb41; have V41 := D9.below hb41; clear i9 j9 u9 v9 rc rd T9 I9 X9 Y9 C9 D9; obtain ⟨cI0_41, cI1_41, cI2_41, cI3_41, cI4_41, cI5_41, fI0_41, fI1_41, fI2_41, fI3_41, fI4_41, fI5_41, sI_41⟩ := I41.open6; obtain ⟨cX0_41, cX1_41, cX2_41, fX0_41, fX1_41, fX2_41, sX_41⟩ := X41.open3; obtain ⟨cY0_41, cY1_41, cY2_41, fY0_41, fY1_41, fY2_41, sY_41⟩ := Y41.open3; obtain ⟨cU0_41, cU1_41, cU2_41, fU0_41, fU1_41, fU2_41, sU_41⟩ := U41.open3; obtain ⟨cV0_41, cV1_41, cV2_41, fV0_41, fV1_41, fV2_41, sV_41⟩ := V41.open3)
            | (go_at_call 28; (with_reducible refine (HCM.out _ _ _ _ _ _ _ _ _ u41 j41 T41 oA.out nx2.out f2.out).mono ?_); rintro e w42 ⟨c2, rfl, dc2, dd2, hb42⟩; have B42 := B41.trans (hb42.mono B41.size); have i42 := i41.below hb42; have j42 := j41.below hb42; have u42 := u41.below hb42; have v42 := v41.below hb42; have c42 := c41.below hb42; have d42 := d41.below hb42; have T42 := T41.below hb42; have I42 := I41.below hb42; have X42 := X41.below hb42; have Y42 := Y41.below hb42; have U42 := U41.below hb42; have V42 := V41.below hb42; clear i41 j41 u41 v41 c41 d41 T41 I41 X41 Y41 U41 V41; clear cI0_41 cI1_41 cI2_41 cI3_41 cI4_41 cI5_41 fI0_41 fI1_41 fI2_41 fI3_41 fI4_41 fI5_41 sI_41; obtain ⟨cI0_42, cI1_42, cI2_42, cI3_42, cI4_42, cI5_42, fI0_42, fI1_42, fI2_42, fI3_42, fI4_42, fI5_42, sI_42⟩ := I42.open6; clear cX0_41 cX1_41 cX2_41 fX0_41 fX1_41 fX2_41 sX_41; obtain ⟨cX0_42, cX1_42, cX2_42, fX0_42, fX1_42, fX2_42, sX_42⟩ := X42.open3; clear cY0_41 cY1_41 cY2_41 fY0_41 fY1_41 fY2_41 sY_41; obtain ⟨cY0_42, cY1_42, cY2_42, fY0_42, fY1_42, fY2_42, sY_42⟩ := Y42.open3; clear cU0_41 cU1_41 cU2_41 fU0_41 fU1_41 fU2_41 sU_41; obtain ⟨cU0_42, cU1_42, cU2_42, fU0_42, fU1_42, fU2_42, sU_42⟩ := U42.open3; clear cV0_41 cV1_41 cV2_41 fV0_41 fV1_41 fV2_41 sV_41; obtain ⟨cV0_42, cV1_42, cV2_42, fV0_42, fV1_42, fV2_42, sV_42⟩ := V42.open3)
            | (go_at_call 28; (with_reducible refine (HCM.out _ _ _ _ _ _ _ _ _ c42 j42 T42 oC.out nx2.out f5.out).mono ?_); rintro e w43 ⟨c3, rfl, dc3, dd3, hb43⟩; have B43 := B42.trans (hb43.mono B42.size); have i43 := i42.below hb43; have j43 := j42.below hb43; have u43 := u42.below hb43; have v43 := v42.below hb43; have c43 := c42.below hb43; have d43 := d42.below hb43; have T43 := T42.below hb43; have I43 := I42.below hb43; have X43 := X42.below hb43; have Y43 := Y42.below hb43; have U43 := U42.below hb43; have V43 := V42.below hb43; clear i42 j42 u42 v42 c42 d42 T42 I42 X42 Y42 U42 V42; clear cI0_42 cI1_42 cI2_42 cI3_42 cI4_42 cI5_42 fI0_42 fI1_42 fI2_42 fI3_42 fI4_42 fI5_42 sI_42; obtain ⟨cI0_43, cI1_43, cI2_43, cI3_43, cI4_43, cI5_43, fI0_43, fI1_43, fI2_43, fI3_43, fI4_43, fI5_43, sI_43⟩ := I43.open6; clear cX0_42 cX1_42 cX2_42 fX0_42 fX1_42 fX2_42 sX_42; obtain ⟨cX0_43, cX1_43, cX2_43, fX0_43, fX1_43, fX2_43, sX_43⟩ := X43.open3; clear cY0_42 cY1_42 cY2_42 fY0_42 fY1_42 fY2_42 sY_42; obtain ⟨cY0_43, cY1_43, cY2_43, fY0_43, fY1_43, fY2_43, sY_43⟩ := Y43.open3; clear cU0_42 cU1_42 cU2_42 fU0_42 fU1_42 fU2_42 sU_42; obtain ⟨cU0_43, cU1_43, cU2_43, fU0_43, fU1_43, fU2_43, sU_43⟩ := U43.open3; clear cV0_42 cV1_42 cV2_42 fV0_42 fV1_42 fV2_42 sV_42; obtain ⟨cV0_43, cV1_43, cV2_43, fV0_43, fV1_43, fV2_43, sV_43⟩ := V43.open3)
            | (go_at_call 28; (with_reducible refine (HCM.out _ _ _ _ _ _ _ _ _ i43 d43 T43 nx1.out oD.out f6.out).mono ?_); rintro e w44 ⟨c4, rfl, dc4, dd4, hb44⟩; have B44 := B43.trans (hb44.mono B43.size); have i44 := i43.below hb44; have j44 := j43.below hb44; have u44 := u43.below hb44; have v44 := v43.below hb44; have c44 := c43.below hb44; have d44 := d43.below hb44; have T44 := T43.below hb44; have I44 := I43.below hb44; have X44 := X43.below hb44; have Y44 := Y43.below hb44; have U44 := U43.below hb44; have V44 := V43.below hb44; clear i43 j43 u43 v43 c43 d43 T43 I43 X43 Y43 U43 V43; clear cI0_43 cI1_43 cI2_43 cI3_43 cI4_43 cI5_43 fI0_43 fI1_43 fI2_43 fI3_43 fI4_43 fI5_43 sI_43; obtain ⟨cI0_44, cI1_44, cI2_44, cI3_44, cI4_44, cI5_44, fI0_44, fI1_44, fI2_44, fI3_44, fI4_44, fI5_44, sI_44⟩ := I44.open6; clear cX0_43 cX1_43 cX2_43 fX0_43 fX1_43 fX2_43 sX_43; obtain ⟨cX0_44, cX1_44, cX2_44, fX0_44, fX1_44, fX2_44, sX_44⟩ := X44.open3; clear cY0_43 cY1_43 cY2_43 fY0_43 fY1_43 fY2_43 sY_43; obtain ⟨cY0_44, cY1_44, cY2_44, fY0_44, fY1_44, fY2_44, sY_44⟩ := Y44.open3; clear cU0_43 cU1_43 cU2_43 fU0_43 fU1_43 fU2_43 sU_43; obtain ⟨cU0_44, cU1_44, cU2_44, fU0_44, fU1_44, fU2_44, sU_44⟩ := U44.open3; clear cV0_43 cV1_43 cV2_43 fV0_43 fV1_43 fV2_43 sV_43; obtain ⟨cV0_44, cV1_44, cV2_44, fV0_44, fV1_44, fV2_44, sV_44⟩ := V44.open3)
            | fail)
          go_ret
          exact ⟨rfl, by assumption⟩
end Go.Proofs.YtngicppjljbafaaDoor.PLPow
