/- LogsRules returns true and leaves what was there: the walk. Conditions: math/bits' table stands in its variable. -/
import Derived.Test.YtngicppjljbafaaDoorLog6
namespace Go.Proofs.YtngicppjljbafaaDoor.PLRules
set_option maxRecDepth 100000
open Go.RowKit Go.Proofs.YtngicppjljbafaaDoor
set_option linter.unusedVariables false

theorem rd4a {w : World} {m : Nat} {T : TypeId} {fz : Nat × Nat} {o2 o3 o4 : Obj} (h : m < BB) : Num ((((w.alloc (.cells #[.int .u64 (m : Int)] T fz)).alloc o2).alloc o3).alloc o4) (.slice (some ⟨w.heap.size, 0, none⟩) 1 1) m :=
  RdN.num1 ((((show RdN _ _ [m] from rd_one (heap_alloc_new _ _) trivial).below (below_alloc _ _)).below (below_alloc _ _)).below (below_alloc _ _)) h
theorem rd4b {w : World} {m : Nat} {T : TypeId} {fz : Nat × Nat} {o1 o3 o4 : Obj} (h : m < BB) : Num ((((w.alloc o1).alloc (.cells #[.int .u64 (m : Int)] T fz)).alloc o3).alloc o4) (.slice (some ⟨w.heap.size + 1, 0, none⟩) 1 1) m :=
  RdN.num1 (((show RdN _ _ [m] from rd_one (heap_new2 _ _ _) trivial).below (below_alloc _ _)).below (below_alloc _ _)) h
theorem blk4c {w : World} {c : Array Value} {T : TypeId} {o1 o2 o4 : Obj} : Blk ((((w.alloc o1).alloc o2).alloc (.cells c T (0, 0))).alloc o4) (w.heap.size + 1 + 1) c :=
  Blk.below ⟨by simp, T, heap_new3 _ _ _ _⟩ (below_alloc _ _)
theorem blk4d {w : World} {c : Array Value} {T : TypeId} {o1 o2 o3 : Obj} : Blk ((((w.alloc o1).alloc o2).alloc o3).alloc (.cells c T (0, 0))) (w.heap.size + 1 + 1 + 1) c := by
  have := heap_new3 (w.alloc o1) o2 o3 (.cells c T (0, 0))
  rw [show (w.alloc o1).heap.size = w.heap.size + 1 by simp] at this
  exact ⟨by simp, T, this⟩
theorem below4 {w : World} {o1 o2 o3 o4 : Obj} : Below w.heap.size w ((((w.alloc o1).alloc o2).alloc o3).alloc o4) := below_a (below_a (below_a (below_alloc _ _)))

set_option maxRecDepth 100000 in
set_option maxHeartbeats 4000000 in
theorem walk (a0 a1 a2 a3 a4 : Int) (w : World) (w0 : (Lit.int .u64 a0).wf = true) (w1 : (Lit.int .u64 a1).wf = true) (w2 : (Lit.int .i8 a2).wf = true) (w3 : (Lit.int .i8 a3).wf = true) (w4 : (Lit.int .u8 a4).wf = true) (hT : Tab w) :
    Calls Tryd.prog 5 #[.int .u64 a0, .int .u64 a1, .int .i8 a2, .int .i8 a3, .int .u8 a4] w fun e w' => e = .returned (.bool true) ∧ Below w.heap.size w w' := by
  have h0 : 0 ≤ a0 ∧ a0 ≤ 18446744073709551615 := by simpa [Lit.wf, IntKind.min, IntKind.max, IntKind.bits, IntKind.signed] using w0
  have h1 : 0 ≤ a1 ∧ a1 ≤ 18446744073709551615 := by simpa [Lit.wf, IntKind.min, IntKind.max, IntKind.bits, IntKind.signed] using w1
  have h2 : -128 ≤ a2 ∧ a2 ≤ 127 := by simpa [Lit.wf, IntKind.min, IntKind.max, IntKind.bits, IntKind.signed] using w2
  have h3 : -128 ≤ a3 ∧ a3 ≤ 127 := by simpa [Lit.wf, IntKind.min, IntKind.max, IntKind.bits, IntKind.signed] using w3
  have h4 : 0 ≤ a4 ∧ a4 ≤ 255 := by simpa [Lit.wf, IntKind.min, IntKind.max, IntKind.bits, IntKind.signed] using w4
  clear w0 w1 w2 w3 w4
  obtain ⟨a, rfl⟩ := Int.eq_ofNat_of_zero_le h0.1
  obtain ⟨b, rfl⟩ := Int.eq_ofNat_of_zero_le h1.1
  obtain ⟨s, rfl⟩ := Int.eq_ofNat_of_zero_le h4.1
  by_cases ha0 : a = 0
  · subst ha0
    go_enter Tryd.func5, Tryd.ntmps5
    go_wp2_with
    (first
      | (go_at_call 7; (with_reducible refine (alive13_any hT).mono ?_); rintro e w1 ⟨rfl, hb1⟩; have B1 := hb1; have T1 := hT.below hb1; clear hT)
      | fail)
    all_goals
      go_ret
      exact ⟨rfl, by assumption⟩
  have da : ((a : Int) == 0) = false := beq_false_of_ne (by omega)
  by_cases hb0 : b = 0
  · subst hb0
    go_enter Tryd.func5, Tryd.ntmps5
    go_wp2_with
    (first
      | (go_at_call 7; (with_reducible refine (alive13_any hT).mono ?_); rintro e w1 ⟨rfl, hb1⟩; have B1 := hb1; have T1 := hT.below hb1; clear hT)
      | fail)
    all_goals
      go_ret
      exact ⟨rfl, by assumption⟩
  have db : ((b : Int) == 0) = false := beq_false_of_ne (by omega)
  obtain ⟨z, hz⟩ : ∃ z, 16 + s = z := ⟨_, rfl⟩
  have z1 : 8 ≤ z := by omega
  have z2 : z ≤ 9000 := by omega
  have v0 : IntKind.i64.wrap (s : Int) = (s : Int) := by rw [IntKind.wrap_i64]; omega
  have v1 : IntKind.i64.wrap (16 + (s : Int)) = (z : Int) := by rw [IntKind.wrap_i64]; omega
  have v2 : IntKind.i64.wrap a2 = a2 := by rw [IntKind.wrap_i64]; omega
  have v3 : IntKind.i64.wrap a3 = a3 := by rw [IntKind.wrap_i64]; omega
  have aB : a < BB := by rw [show BB = 18446744073709551616 from rfl]; omega
  have bB : b < BB := by rw [show BB = 18446744073709551616 from rfl]; omega
  have sa : bitN a ≤ 64 := bitN_le.2 aB
  have sb : bitN b ≤ 64 := bitN_le.2 bB
  have ma : Mid 300 ⟨false, a, a2⟩ := ⟨by show (-300 : Int) ≤ a2; omega, by show a2 ≤ 300; omega, by show (bitN a : Int) + a2 ≤ 300; omega⟩
  have mb : Mid 300 ⟨false, b, a3⟩ := ⟨by show (-300 : Int) ≤ a3; omega, by show a3 ≤ 300; omega, by show (bitN b : Int) + a3 ≤ 300; omega⟩
  have pa : 0 < qv ⟨false, a, a2⟩ := Rat.mul_pos (rq_nat_pos (Nat.pos_of_ne_zero ha0)) (pw_pos _)
  have pb : 0 < qv ⟨false, b, a3⟩ := Rat.mul_pos (rq_nat_pos (Nat.pos_of_ne_zero hb0)) (pw_pos _)
  have HMU := Lib.hid (fun (w : World) v u (h : Num w v a) (k : Num w u b) (hT : Tab w) => Mul_v h k hT ma mb (by omega) (by omega))
  have HLX := Lib.hid (fun (w : World) v (h : Num w v a) (hT : Tab w) => Log_w (neg := false) (E := a2) h hT (by omega) (by omega) (near_small ha0 (by omega) (by omega) (by omega)) z1 z2)
  have HLY := Lib.hid (fun (w : World) v (h : Num w v b) (hT : Tab w) => Log_w (neg := false) (E := a3) h hT (by omega) (by omega) (near_small hb0 (by omega) (by omega) (by omega)) z1 z2)
  have HLP : Hid (∀ (w : World) v n m x, RdN w v (digs BB m) → Tab w → (qv ⟨n, m, x⟩ = qv ⟨false, a, a2⟩ * qv ⟨false, b, a3⟩ ∧ Mid (300 + 300) ⟨n, m, x⟩ ∧ bareD ⟨n, m, x⟩ = ⟨n, m, x⟩) → Calls Tryd.prog 18 #[.agg #[.bool n, v, .int .i64 x], .int .i64 (z : Int)] w (fun r w' => ∃ n1 m1 e1 n2 m2 e2 x y, r = .returned (.tuple #[.agg #[.bool n1, x, .int .i64 e1, .bool n2, y, .int .i64 e2], .int .i64 0]) ∧ (LnIn (qv ⟨false, a, a2⟩ * qv ⟨false, b, a3⟩) (qv ⟨n1, m1, e1⟩) (qv ⟨n2, m2, e2⟩) ∧ Mid 10000 ⟨n1, m1, e1⟩ ∧ Mid 10000 ⟨n2, m2, e2⟩) ∧ RdN w' x (digs BB m1) ∧ RdN w' y (digs BB m2) ∧ Below w.heap.size w w')) := Lib.hid (fun w v n m x h hT ho => by
    obtain ⟨o1, o2, -⟩ := ho
    obtain ⟨k1, k2, k3⟩ := o2.nums
    obtain ⟨rfl, h0⟩ := pos_parts (by rw [o1]; exact Rat.mul_pos pa pb)
    have := Log_w (neg := false) (E := x) (s := z) (h.num (by omega)) hT (by omega) (by omega) (near_small h0 (by omega) (by omega) (by omega)) z1 z2
    rw [o1] at this
    exact this)
  have HPB : Hid (∀ (w : World) v n m x, RdN w v (digs BB m) → (qv ⟨n, m, x⟩ = qv ⟨false, a, a2⟩ * qv ⟨false, b, a3⟩ ∧ Mid (300 + 300) ⟨n, m, x⟩ ∧ bareD ⟨n, m, x⟩ = ⟨n, m, x⟩) → Calls Tryd.prog 31 #[v] w (fun e w' => ∃ t : Int, e = .returned (.int .i64 t) ∧ decide (0 < t) = true ∧ Below w.heap.size w w')) := Lib.hid (fun w v n m x h ho => by
    obtain ⟨o1, o2, -⟩ := ho
    obtain ⟨k1, k2, k3⟩ := o2.nums
    obtain ⟨rfl, h0⟩ := pos_parts (by rw [o1]; exact Rat.mul_pos pa pb)
    refine (bits_n (h.num (by omega)) rfl).mono ?_
    rintro e w' ⟨rfl, hb⟩
    have : bitN m ≠ 0 := fun e => h0 (eq_zero_of_bitN e)
    exact ⟨_, rfl, decide_eq_true (by omega), hb⟩)
  have HAD : Hid (∀ (w : World) v u n1 m1 e1 n2 m2 e2, RdN w v (digs BB m1) → RdN w u (digs BB m2) → Tab w → Mid 10000 ⟨n1, m1, e1⟩ → Mid 10000 ⟨n2, m2, e2⟩ → Calls Tryd.prog 27 #[.agg #[.bool n1, v, .int .i64 e1], .agg #[.bool n2, u, .int .i64 e2]] w (fun e w' => ∃ n m x v, e = .returned (.tuple #[.agg #[.bool n, v, .int .i64 x], .int .i64 0]) ∧ (qv ⟨n, m, x⟩ = qv ⟨n1, m1, e1⟩ + qv ⟨n2, m2, e2⟩ ∧ Mid 10001 ⟨n, m, x⟩ ∧ bareD ⟨n, m, x⟩ = ⟨n, m, x⟩) ∧ RdN w' v (digs BB m) ∧ Below w.heap.size w w')) := Lib.hid (fun w v u n1 m1 e1 n2 m2 e2 h k hT g1 g2 => by
    obtain ⟨k1, -, -⟩ := g1.nums
    obtain ⟨k2, -, -⟩ := g2.nums
    exact Add_v (h.num (by omega)) (k.num (by omega)) hT g1 g2 (by omega) (by omega))
  have HCM : Hid (∀ (w : World) v u n1 m1 e1 n2 m2 e2, RdN w v (digs BB m1) → RdN w u (digs BB m2) → Tab w → Mid 10001 ⟨n1, m1, e1⟩ → Mid 10001 ⟨n2, m2, e2⟩ → qv ⟨n1, m1, e1⟩ ≤ qv ⟨n2, m2, e2⟩ → Calls Tryd.prog 28 #[.agg #[.bool n1, v, .int .i64 e1], .agg #[.bool n2, u, .int .i64 e2]] w (fun e w' => ∃ c : Int, e = .returned (.int .i64 c) ∧ decide (c ≤ 0) = true ∧ decide (0 < c) = false ∧ Below w.heap.size w w')) := Lib.hid (fun w v u n1 m1 e1 n2 m2 e2 h k hT g1 g2 hle => by
    obtain ⟨k1, k3, k4⟩ := g1.nums
    obtain ⟨k2, k5, k6⟩ := g2.nums
    exact Cmp_leq (h.num (by omega)) (k.num (by omega)) hT (by omega) (by omega) (by omega) (by omega) (by omega) (by omega) hle)
  have HXY := Lib.hid (fun (w : World) v u (h : Num w v a) (k : Num w u b) (hT : Tab w) => Cmp_v (n1 := false) (n2 := false) (e1 := a2) (e2 := a3) h k hT (by omega) (by omega) (by omega) (by omega) (by omega) (by omega))
  have HO1 := Lib.hid (fun w (hT : Tab w) => show Calls Tryd.prog 29 #[.int .i64 1] w _ from Of_n (n := 1) (by decide) hT (show bareD ⟨false, 1, 0⟩ = ⟨false, 1, 0⟩ from rfl))
  have HX1 := Lib.hid (fun (w : World) v u (h : Num w v a) (k : RdN w u (digs BB 1)) (hT : Tab w) => Cmp_v (n1 := false) (n2 := false) (e1 := a2) (e2 := 0) h (k.num (by rw [bitN_one]; omega)) hT (by omega) (by rw [bitN_one]; omega) (by omega) (by omega) (by omega) (by omega))
  have q1 : qv ⟨false, 1, 0⟩ = 1 := by rw [qv_pos, pw_zero, Rat.mul_one]; rfl
  rw [q1] at HX1
  have HSG : Hid (∀ (w : World) v n m x, RdN w v (digs BB m) → Mid 10000 ⟨n, m, x⟩ → 0 ≤ qv ⟨n, m, x⟩ → Calls Tryd.prog 30 #[.agg #[.bool n, v, .int .i64 x]] w (fun r w' => ∃ s : Int, r = .returned (.int .i64 s) ∧ decide (0 ≤ s) = true ∧ Below w.heap.size w w')) := Lib.hid (fun w v n m x h g hq => by
    obtain ⟨k1, -, -⟩ := g.nums
    exact Sign_ge (h.num (by omega)) hq)
  have HSL : Hid (∀ (w : World) v n m x, RdN w v (digs BB m) → Mid 10000 ⟨n, m, x⟩ → qv ⟨n, m, x⟩ ≤ 0 → Calls Tryd.prog 30 #[.agg #[.bool n, v, .int .i64 x]] w (fun r w' => ∃ s : Int, r = .returned (.int .i64 s) ∧ decide (s ≤ 0) = true ∧ Below w.heap.size w w')) := Lib.hid (fun w v n m x h g hq => by
    obtain ⟨k1, -, -⟩ := g.nums
    exact Sign_le (h.num (by omega)) hq)
  clear hz h0 h1 h2 h3 h4 ha0 hb0 pa pb ma mb q1
  go_enter Tryd.func5, Tryd.ntmps5
  go_upto_region 11 with
  (first
    | (go_at_call 7; (with_reducible refine (alive13_any hT).mono ?_); rintro e w1 ⟨rfl, hb1⟩; have B1 := hb1; have T1 := hT.below hb1; clear hT)
    | (go_at_call 26; (with_reducible refine (HMU.out _ _ _ (rd4a aB) (rd4b bB) (T1.below below4)).mono ?_); rintro e w2 ⟨np, mp, ep, vp, rfl, op, p2, hb2⟩; have B2 := (B1.trans (below4.mono B1.size)).trans (hb2.mono (B1.trans (below4.mono B1.size)).size); have T2 := ((T1.below below4)).below hb2; have x2 := ((rd4a aB)).below hb2; have y2 := ((rd4b bB)).below hb2; have P2 := ((blk4c)).below hb2; have Q2 := ((blk4d)).below hb2; obtain ⟨cP0_2, cP1_2, cP2_2, fP0_2, fP1_2, fP2_2, sP_2⟩ := P2.open3; obtain ⟨cQ0_2, cQ1_2, cQ2_2, fQ0_2, fQ1_2, fQ2_2, sQ_2⟩ := Q2.open3; obtain ⟨ap2, kp2, rfl, -⟩ := p2.view; try simp only [List.length_nil] at p2)
    | (go_at_call 18; (with_reducible refine (HLX.out _ _ (x2.below (below_alloc _ _)) (T2.below (below_alloc _ _))).mono ?_); rintro e w3 ⟨n1, m1, e1, n2, m2, e2, vi, vj, rfl, ox, i3, j3, hb3⟩; have hb3' := (below_a hb3); have B3 := B2.trans (hb3'.mono B2.size); have T3 := T2.below hb3'; have x3 := x2.below hb3'; have y3 := y2.below hb3'; have P3 := P2.below hb3'; have Q3 := Q2.below hb3'; have p3 := p2.below hb3'; clear T2 x2 y2 P2 Q2 p2; have R3 := blk_new.below hb3; clear cP0_2 cP1_2 cP2_2 fP0_2 fP1_2 fP2_2 sP_2; obtain ⟨cP0_3, cP1_3, cP2_3, fP0_3, fP1_3, fP2_3, sP_3⟩ := P3.open3; clear cQ0_2 cQ1_2 cQ2_2 fQ0_2 fQ1_2 fQ2_2 sQ_2; obtain ⟨cQ0_3, cQ1_3, cQ2_3, fQ0_3, fQ1_3, fQ2_3, sQ_3⟩ := Q3.open3; obtain ⟨cR0_3, cR1_3, cR2_3, fR0_3, fR1_3, fR2_3, sR_3⟩ := R3.open3; obtain ⟨ai3, ki3, rfl, -⟩ := i3.view; (try simp only [List.length_nil] at i3); obtain ⟨aj3, kj3, rfl, -⟩ := j3.view; try simp only [List.length_nil] at j3)
    | (go_at_call 18; (with_reducible refine (HLY.out _ _ (y3.below (below_alloc _ _)) (T3.below (below_alloc _ _))).mono ?_); rintro e w4 ⟨n3, m3, e3, n4, m4, e4, vk, vl, rfl, oy, k4, l4, hb4⟩; have hb4' := (below_a hb4); have B4 := B3.trans (hb4'.mono B3.size); have T4 := T3.below hb4'; have x4 := x3.below hb4'; have y4 := y3.below hb4'; have P4 := P3.below hb4'; have Q4 := Q3.below hb4'; have p4 := p3.below hb4'; have R4 := R3.below hb4'; have i4 := i3.below hb4'; have j4 := j3.below hb4'; clear T3 x3 y3 P3 Q3 p3 R3 i3 j3; have I4 := blk_new.below hb4; clear cP0_3 cP1_3 cP2_3 fP0_3 fP1_3 fP2_3 sP_3; obtain ⟨cP0_4, cP1_4, cP2_4, fP0_4, fP1_4, fP2_4, sP_4⟩ := P4.open3; clear cQ0_3 cQ1_3 cQ2_3 fQ0_3 fQ1_3 fQ2_3 sQ_3; obtain ⟨cQ0_4, cQ1_4, cQ2_4, fQ0_4, fQ1_4, fQ2_4, sQ_4⟩ := Q4.open3; clear cR0_3 cR1_3 cR2_3 fR0_3 fR1_3 fR2_3 sR_3; obtain ⟨cR0_4, cR1_4, cR2_4, fR0_4, fR1_4, fR2_4, sR_4⟩ := R4.open3; obtain ⟨cI0_4, cI1_4, cI2_4, cI3_4, cI4_4, cI5_4, fI0_4, fI1_4, fI2_4, fI3_4, fI4_4, fI5_4, sI_4⟩ := I4.open6; obtain ⟨ak4, kk4, rfl, -⟩ := k4.view; (try simp only [List.length_nil] at k4); obtain ⟨al4, kl4, rfl, -⟩ := l4.view; try simp only [List.length_nil] at l4)
    | (go_at_call 18; (with_reducible refine (HLP.out _ _ _ _ _ (p4.below (below_alloc _ _)) (T4.below (below_alloc _ _)) op).mono ?_); rintro e w5 ⟨n5, m5, e5, n6, m6, e6, vg, vh, rfl, oz, g5, h5, hb5⟩; have hb5' := (below_a hb5); have B5 := B4.trans (hb5'.mono B4.size); have T5 := T4.below hb5'; have x5 := x4.below hb5'; have y5 := y4.below hb5'; have P5 := P4.below hb5'; have Q5 := Q4.below hb5'; have p5 := p4.below hb5'; have R5 := R4.below hb5'; have i5 := i4.below hb5'; have j5 := j4.below hb5'; have I5 := I4.below hb5'; have k5 := k4.below hb5'; have l5 := l4.below hb5'; clear T4 x4 y4 P4 Q4 p4 R4 i4 j4 I4 k4 l4; have J5 := blk_new.below hb5; clear cP0_4 cP1_4 cP2_4 fP0_4 fP1_4 fP2_4 sP_4; obtain ⟨cP0_5, cP1_5, cP2_5, fP0_5, fP1_5, fP2_5, sP_5⟩ := P5.open3; clear cQ0_4 cQ1_4 cQ2_4 fQ0_4 fQ1_4 fQ2_4 sQ_4; obtain ⟨cQ0_5, cQ1_5, cQ2_5, fQ0_5, fQ1_5, fQ2_5, sQ_5⟩ := Q5.open3; clear cR0_4 cR1_4 cR2_4 fR0_4 fR1_4 fR2_4 sR_4; obtain ⟨cR0_5, cR1_5, cR2_5, fR0_5, fR1_5, fR2_5, sR_5⟩ := R5.open3; clear cI0_4 cI1_4 cI2_4 cI3_4 cI4_4 cI5_4 fI0_4 fI1_4 fI2_4 fI3_4 fI4_4 fI5_4 sI_4; obtain ⟨cI0_5, cI1_5, cI2_5, cI3_5, cI4_5, cI5_5, fI0_5, fI1_5, fI2_5, fI3_5, fI4_5, fI5_5, sI_5⟩ := I5.open6; obtain ⟨cJ0_5, cJ1_5, cJ2_5, cJ3_5, cJ4_5, cJ5_5, fJ0_5, fJ1_5, fJ2_5, fJ3_5, fJ4_5, fJ5_5, sJ_5⟩ := J5.open6; obtain ⟨ag5, kg5, rfl, -⟩ := g5.view; (try simp only [List.length_nil] at g5); obtain ⟨ah5, kh5, rfl, -⟩ := h5.view; try simp only [List.length_nil] at h5)
    | fail)
  obtain ⟨lx, mx1, mx2⟩ := ox
  obtain ⟨ly, my1, my2⟩ := oy
  obtain ⟨lz, mz1, mz2⟩ := oz
  have lsum := lx.mul ly
  have f1 := Lib.hid (lsum.le lz Rat.le_refl)
  have f2 := Lib.hid (lz.le lsum Rat.le_refl)
  have g1 := Lib.hid (fun h => lx.le ly h)
  have g2 := Lib.hid (fun h => ly.le lx h)
  have g3 := Lib.hid (fun h => LnIn.one.le lx h)
  have g4 := Lib.hid (fun h => lx.le LnIn.one h)
  have mx1' := Lib.hid mx1; have mx2' := Lib.hid mx2; have my1' := Lib.hid my1; have my2' := Lib.hid my2
  have mz1' := Lib.hid (mz1.mono (show (10000 : Int) ≤ 10001 by omega)); have mz2' := Lib.hid (mz2.mono (show (10000 : Int) ≤ 10001 by omega))
  have nx1 := Lib.hid (mx1.mono (show (10000 : Int) ≤ 10001 by omega)); have nx2 := Lib.hid (mx2.mono (show (10000 : Int) ≤ 10001 by omega))
  have ny1 := Lib.hid (my1.mono (show (10000 : Int) ≤ 10001 by omega)); have ny2 := Lib.hid (my2.mono (show (10000 : Int) ≤ 10001 by omega))
  have op' := Lib.hid op
  clear lx ly lz lsum mx1 mx2 my1 my2 mz1 mz2 op
  go_upto_region 18 with
  (first
    | (go_at_call 27; (with_reducible refine (HAD.out _ _ _ _ _ _ _ _ _ (i5.below (below_alloc _ _)) (k5.below (below_alloc _ _)) (T5.below (below_alloc _ _)) mx1'.out my1'.out).mono ?_); rintro e w11 ⟨n7, m7, e7, va, rfl, oa, a11, hb11⟩; have hb11' := (below_a hb11); have B11 := B5.trans (hb11'.mono B5.size); have x11 := x5.below hb11'; have y11 := y5.below hb11'; have p11 := p5.below hb11'; have i11 := i5.below hb11'; have j11 := j5.below hb11'; have k11 := k5.below hb11'; have l11 := l5.below hb11'; have g11 := g5.below hb11'; have h11 := h5.below hb11'; have T11 := T5.below hb11'; have P11 := P5.below hb11'; have Q11 := Q5.below hb11'; have R11 := R5.below hb11'; have I11 := I5.below hb11'; have J11 := J5.below hb11'; clear x5 y5 p5 i5 j5 k5 l5 g5 h5 T5 P5 Q5 R5 I5 J5; have K11 := blk_new.below hb11; obtain ⟨cP0_11, cP1_11, cP2_11, fP0_11, fP1_11, fP2_11, sP_11⟩ := P11.open3; obtain ⟨cQ0_11, cQ1_11, cQ2_11, fQ0_11, fQ1_11, fQ2_11, sQ_11⟩ := Q11.open3; obtain ⟨cR0_11, cR1_11, cR2_11, fR0_11, fR1_11, fR2_11, sR_11⟩ := R11.open3; obtain ⟨cI0_11, cI1_11, cI2_11, cI3_11, cI4_11, cI5_11, fI0_11, fI1_11, fI2_11, fI3_11, fI4_11, fI5_11, sI_11⟩ := I11.open6; obtain ⟨cJ0_11, cJ1_11, cJ2_11, cJ3_11, cJ4_11, cJ5_11, fJ0_11, fJ1_11, fJ2_11, fJ3_11, fJ4_11, fJ5_11, sJ_11⟩ := J11.open6; obtain ⟨cK0_11, cK1_11, cK2_11, cK3_11, cK4_11, cK5_11, fK0_11, fK1_11, fK2_11, fK3_11, fK4_11, fK5_11, sK_11⟩ := K11.open6; obtain ⟨aa11, ka11, rfl, -⟩ := a11.view; try simp only [List.length_nil] at a11)
    | (go_at_call 27; (with_reducible refine (HAD.out _ _ _ _ _ _ _ _ _ (j11.below (below_alloc _ _)) (l11.below (below_alloc _ _)) (T11.below (below_alloc _ _)) mx2'.out my2'.out).mono ?_); rintro e w12 ⟨n8, m8, e8, vb, rfl, ob, b12, hb12⟩; have hb12' := (below_a hb12); have B12 := B11.trans (hb12'.mono B11.size); have x12 := x11.below hb12'; have y12 := y11.below hb12'; have p12 := p11.below hb12'; have i12 := i11.below hb12'; have j12 := j11.below hb12'; have k12 := k11.below hb12'; have l12 := l11.below hb12'; have g12 := g11.below hb12'; have h12 := h11.below hb12'; have T12 := T11.below hb12'; have P12 := P11.below hb12'; have Q12 := Q11.below hb12'; have R12 := R11.below hb12'; have I12 := I11.below hb12'; have J12 := J11.below hb12'; have K12 := K11.below hb12'; have a12 := a11.below hb12'; clear x11 y11 p11 i11 j11 k11 l11 g11 h11 T11 P11 Q11 R11 I11 J11 K11 a11; have L12 := blk_new.below hb12; clear cP0_11 cP1_11 cP2_11 fP0_11 fP1_11 fP2_11 sP_11; obtain ⟨cP0_12, cP1_12, cP2_12, fP0_12, fP1_12, fP2_12, sP_12⟩ := P12.open3; clear cQ0_11 cQ1_11 cQ2_11 fQ0_11 fQ1_11 fQ2_11 sQ_11; obtain ⟨cQ0_12, cQ1_12, cQ2_12, fQ0_12, fQ1_12, fQ2_12, sQ_12⟩ := Q12.open3; clear cR0_11 cR1_11 cR2_11 fR0_11 fR1_11 fR2_11 sR_11; obtain ⟨cR0_12, cR1_12, cR2_12, fR0_12, fR1_12, fR2_12, sR_12⟩ := R12.open3; clear cI0_11 cI1_11 cI2_11 cI3_11 cI4_11 cI5_11 fI0_11 fI1_11 fI2_11 fI3_11 fI4_11 fI5_11 sI_11; obtain ⟨cI0_12, cI1_12, cI2_12, cI3_12, cI4_12, cI5_12, fI0_12, fI1_12, fI2_12, fI3_12, fI4_12, fI5_12, sI_12⟩ := I12.open6; clear cJ0_11 cJ1_11 cJ2_11 cJ3_11 cJ4_11 cJ5_11 fJ0_11 fJ1_11 fJ2_11 fJ3_11 fJ4_11 fJ5_11 sJ_11; obtain ⟨cJ0_12, cJ1_12, cJ2_12, cJ3_12, cJ4_12, cJ5_12, fJ0_12, fJ1_12, fJ2_12, fJ3_12, fJ4_12, fJ5_12, sJ_12⟩ := J12.open6; clear cK0_11 cK1_11 cK2_11 cK3_11 cK4_11 cK5_11 fK0_11 fK1_11 fK2_11 fK3_11 fK4_11 fK5_11 sK_11; obtain ⟨cK0_12, cK1_12, cK2_12, cK3_12, cK4_12, cK5_12, fK0_12, fK1_12, fK2_12, fK3_12, fK4_12, fK5_12, sK_12⟩ := K12.open6; obtain ⟨cL0_12, cL1_12, cL2_12, fL0_12, fL1_12, fL2_12, sL_12⟩ := L12.open3; obtain ⟨ab12, kb12, rfl, -⟩ := b12.view; try simp only [List.length_nil] at b12)
    | (go_at_call 28; (with_reducible refine (HCM.out _ _ _ _ _ _ _ _ _ (a12.below (below_alloc _ _)) (h12.below (below_alloc _ _)) (T12.below (below_alloc _ _)) oa.2.1 mz2'.out (by rw [oa.1]; exact f1.out)).mono ?_); rintro e w13 ⟨c1, rfl, dc1, dd1, hb13⟩; have hb13' := (below_a hb13); have B13 := B12.trans (hb13'.mono B12.size); have x13 := x12.below hb13'; have y13 := y12.below hb13'; have p13 := p12.below hb13'; have i13 := i12.below hb13'; have j13 := j12.below hb13'; have k13 := k12.below hb13'; have l13 := l12.below hb13'; have g13 := g12.below hb13'; have h13 := h12.below hb13'; have T13 := T12.below hb13'; have P13 := P12.below hb13'; have Q13 := Q12.below hb13'; have R13 := R12.below hb13'; have I13 := I12.below hb13'; have J13 := J12.below hb13'; have K13 := K12.below hb13'; have a13 := a12.below hb13'; have L13 := L12.below hb13'; have b13 := b12.below hb13'; clear x12 y12 p12 i12 j12 k12 l12 g12 h12 T12 P12 Q12 R12 I12 J12 K12 a12 L12 b12; have N13 := blk_new.below hb13; clear cP0_12 cP1_12 cP2_12 fP0_12 fP1_12 fP2_12 sP_12; obtain ⟨cP0_13, cP1_13, cP2_13, fP0_13, fP1_13, fP2_13, sP_13⟩ := P13.open3; clear cQ0_12 cQ1_12 cQ2_12 fQ0_12 fQ1_12 fQ2_12 sQ_12; obtain ⟨cQ0_13, cQ1_13, cQ2_13, fQ0_13, fQ1_13, fQ2_13, sQ_13⟩ := Q13.open3; clear cR0_12 cR1_12 cR2_12 fR0_12 fR1_12 fR2_12 sR_12; obtain ⟨cR0_13, cR1_13, cR2_13, fR0_13, fR1_13, fR2_13, sR_13⟩ := R13.open3; clear cI0_12 cI1_12 cI2_12 cI3_12 cI4_12 cI5_12 fI0_12 fI1_12 fI2_12 fI3_12 fI4_12 fI5_12 sI_12; obtain ⟨cI0_13, cI1_13, cI2_13, cI3_13, cI4_13, cI5_13, fI0_13, fI1_13, fI2_13, fI3_13, fI4_13, fI5_13, sI_13⟩ := I13.open6; clear cJ0_12 cJ1_12 cJ2_12 cJ3_12 cJ4_12 cJ5_12 fJ0_12 fJ1_12 fJ2_12 fJ3_12 fJ4_12 fJ5_12 sJ_12; obtain ⟨cJ0_13, cJ1_13, cJ2_13, cJ3_13, cJ4_13, cJ5_13, fJ0_13, fJ1_13, fJ2_13, fJ3_13, fJ4_13, fJ5_13, sJ_13⟩ := J13.open6; clear cK0_12 cK1_12 cK2_12 cK3_12 cK4_12 cK5_12 fK0_12 fK1_12 fK2_12 fK3_12 fK4_12 fK5_12 sK_12; obtain ⟨cK0_13, cK1_13, cK2_13, cK3_13, cK4_13, cK5_13, fK0_13, fK1_13, fK2_13, fK3_13, fK4_13, fK5_13, sK_13⟩ := K13.open6; clear cL0_12 cL1_12 cL2_12 fL0_12 fL1_12 fL2_12 sL_12; obtain ⟨cL0_13, cL1_13, cL2_13, fL0_13, fL1_13, fL2_13, sL_13⟩ := L13.open3; obtain ⟨cN0_13, cN1_13, cN2_13, fN0_13, fN1_13, fN2_13, sN_13⟩ := N13.open3)
    | (go_at_call 28; (with_reducible refine (HCM.out _ _ _ _ _ _ _ _ _ g13 b13 T13 mz1'.out ob.2.1 (by rw [ob.1]; exact f2.out)).mono ?_); rintro e w14 ⟨c2, rfl, dc2, dd2, hb14⟩; have B14 := B13.trans (hb14.mono B13.size); have x14 := x13.below hb14; have y14 := y13.below hb14; have p14 := p13.below hb14; have i14 := i13.below hb14; have j14 := j13.below hb14; have k14 := k13.below hb14; have l14 := l13.below hb14; have g14 := g13.below hb14; have h14 := h13.below hb14; have T14 := T13.below hb14; have P14 := P13.below hb14; have Q14 := Q13.below hb14; have R14 := R13.below hb14; have I14 := I13.below hb14; have J14 := J13.below hb14; have K14 := K13.below hb14; have a14 := a13.below hb14; have L14 := L13.below hb14; have b14 := b13.below hb14; have N14 := N13.below hb14; clear x13 y13 p13 i13 j13 k13 l13 g13 h13 T13 P13 Q13 R13 I13 J13 K13 a13 L13 b13 N13; clear cP0_13 cP1_13 cP2_13 fP0_13 fP1_13 fP2_13 sP_13; obtain ⟨cP0_14, cP1_14, cP2_14, fP0_14, fP1_14, fP2_14, sP_14⟩ := P14.open3; clear cQ0_13 cQ1_13 cQ2_13 fQ0_13 fQ1_13 fQ2_13 sQ_13; obtain ⟨cQ0_14, cQ1_14, cQ2_14, fQ0_14, fQ1_14, fQ2_14, sQ_14⟩ := Q14.open3; clear cR0_13 cR1_13 cR2_13 fR0_13 fR1_13 fR2_13 sR_13; obtain ⟨cR0_14, cR1_14, cR2_14, fR0_14, fR1_14, fR2_14, sR_14⟩ := R14.open3; clear cI0_13 cI1_13 cI2_13 cI3_13 cI4_13 cI5_13 fI0_13 fI1_13 fI2_13 fI3_13 fI4_13 fI5_13 sI_13; obtain ⟨cI0_14, cI1_14, cI2_14, cI3_14, cI4_14, cI5_14, fI0_14, fI1_14, fI2_14, fI3_14, fI4_14, fI5_14, sI_14⟩ := I14.open6; clear cJ0_13 cJ1_13 cJ2_13 cJ3_13 cJ4_13 cJ5_13 fJ0_13 fJ1_13 fJ2_13 fJ3_13 fJ4_13 fJ5_13 sJ_13; obtain ⟨cJ0_14, cJ1_14, cJ2_14, cJ3_14, cJ4_14, cJ5_14, fJ0_14, fJ1_14, fJ2_14, fJ3_14, fJ4_14, fJ5_14, sJ_14⟩ := J14.open6; clear cK0_13 cK1_13 cK2_13 cK3_13 cK4_13 cK5_13 fK0_13 fK1_13 fK2_13 fK3_13 fK4_13 fK5_13 sK_13; obtain ⟨cK0_14, cK1_14, cK2_14, cK3_14, cK4_14, cK5_14, fK0_14, fK1_14, fK2_14, fK3_14, fK4_14, fK5_14, sK_14⟩ := K14.open6; clear cL0_13 cL1_13 cL2_13 fL0_13 fL1_13 fL2_13 sL_13; obtain ⟨cL0_14, cL1_14, cL2_14, fL0_14, fL1_14, fL2_14, sL_14⟩ := L14.open3; clear cN0_13 cN1_13 cN2_13 fN0_13 fN1_13 fN2_13 sN_13; obtain ⟨cN0_14, cN1_14, cN2_14, fN0_14, fN1_14, fN2_14, sN_14⟩ := N14.open3)
    | (go_at_call 28; (with_reducible refine (HXY.out _ _ _ x14 y14 T14).mono ?_); rintro e w15 ⟨c3, rfl, hc3, hb15⟩; have B15 := B14.trans (hb15.mono B14.size); have x15 := x14.below hb15; have y15 := y14.below hb15; have p15 := p14.below hb15; have i15 := i14.below hb15; have j15 := j14.below hb15; have k15 := k14.below hb15; have l15 := l14.below hb15; have g15 := g14.below hb15; have h15 := h14.below hb15; have T15 := T14.below hb15; have P15 := P14.below hb15; have Q15 := Q14.below hb15; have R15 := R14.below hb15; have I15 := I14.below hb15; have J15 := J14.below hb15; have K15 := K14.below hb15; have a15 := a14.below hb15; have L15 := L14.below hb15; have b15 := b14.below hb15; have N15 := N14.below hb15; clear x14 y14 p14 i14 j14 k14 l14 g14 h14 T14 P14 Q14 R14 I14 J14 K14 a14 L14 b14 N14; clear cP0_14 cP1_14 cP2_14 fP0_14 fP1_14 fP2_14 sP_14; obtain ⟨cP0_15, cP1_15, cP2_15, fP0_15, fP1_15, fP2_15, sP_15⟩ := P15.open3; clear cQ0_14 cQ1_14 cQ2_14 fQ0_14 fQ1_14 fQ2_14 sQ_14; obtain ⟨cQ0_15, cQ1_15, cQ2_15, fQ0_15, fQ1_15, fQ2_15, sQ_15⟩ := Q15.open3; clear cR0_14 cR1_14 cR2_14 fR0_14 fR1_14 fR2_14 sR_14; obtain ⟨cR0_15, cR1_15, cR2_15, fR0_15, fR1_15, fR2_15, sR_15⟩ := R15.open3; clear cI0_14 cI1_14 cI2_14 cI3_14 cI4_14 cI5_14 fI0_14 fI1_14 fI2_14 fI3_14 fI4_14 fI5_14 sI_14; obtain ⟨cI0_15, cI1_15, cI2_15, cI3_15, cI4_15, cI5_15, fI0_15, fI1_15, fI2_15, fI3_15, fI4_15, fI5_15, sI_15⟩ := I15.open6; clear cJ0_14 cJ1_14 cJ2_14 cJ3_14 cJ4_14 cJ5_14 fJ0_14 fJ1_14 fJ2_14 fJ3_14 fJ4_14 fJ5_14 sJ_14; obtain ⟨cJ0_15, cJ1_15, cJ2_15, cJ3_15, cJ4_15, cJ5_15, fJ0_15, fJ1_15, fJ2_15, fJ3_15, fJ4_15, fJ5_15, sJ_15⟩ := J15.open6; clear cK0_14 cK1_14 cK2_14 cK3_14 cK4_14 cK5_14 fK0_14 fK1_14 fK2_14 fK3_14 fK4_14 fK5_14 sK_14; obtain ⟨cK0_15, cK1_15, cK2_15, cK3_15, cK4_15, cK5_15, fK0_15, fK1_15, fK2_15, fK3_15, fK4_15, fK5_15, sK_15⟩ := K15.open6; clear cL0_14 cL1_14 cL2_14 fL0_14 fL1_14 fL2_14 sL_14; obtain ⟨cL0_15, cL1_15, cL2_15, fL0_15, fL1_15, fL2_15, sL_15⟩ := L15.open3; clear cN0_14 cN1_14 cN2_14 fN0_14 fN1_14 fN2_14 sN_14; obtain ⟨cN0_15, cN1_15, cN2_15, fN0_15, fN1_15, fN2_15, sN_15⟩ := N15.open3)
    | fail)
  clear oa ob f1 f2
  rcases hc3 with ⟨hq, rfl⟩ | ⟨hq, rfl⟩ | ⟨hq, rfl⟩
  · have HG1 := Lib.hid (g1.out (Rat.le_of_lt hq))
    go_upto_region 20 with
    (first
      | (go_at_call 28; (with_reducible refine (HCM.out _ _ _ _ _ _ _ _ _ i15 l15 T15 nx1.out ny2.out HG1.out).mono ?_); rintro e w21 ⟨c4, rfl, dc4, dd4, hb21⟩; have B21 := B15.trans (hb21.mono B15.size); have x21 := x15.below hb21; have y21 := y15.below hb21; have p21 := p15.below hb21; have i21 := i15.below hb21; have j21 := j15.below hb21; have k21 := k15.below hb21; have l21 := l15.below hb21; have g21 := g15.below hb21; have h21 := h15.below hb21; have a21 := a15.below hb21; have b21 := b15.below hb21; have T21 := T15.below hb21; have P21 := P15.below hb21; have Q21 := Q15.below hb21; have R21 := R15.below hb21; have I21 := I15.below hb21; have J21 := J15.below hb21; have K21 := K15.below hb21; have L21 := L15.below hb21; have N21 := N15.below hb21; clear x15 y15 p15 i15 j15 k15 l15 g15 h15 a15 b15 T15 P15 Q15 R15 I15 J15 K15 L15 N15; obtain ⟨cP0_21, cP1_21, cP2_21, fP0_21, fP1_21, fP2_21, sP_21⟩ := P21.open3; obtain ⟨cQ0_21, cQ1_21, cQ2_21, fQ0_21, fQ1_21, fQ2_21, sQ_21⟩ := Q21.open3; obtain ⟨cR0_21, cR1_21, cR2_21, fR0_21, fR1_21, fR2_21, sR_21⟩ := R21.open3; obtain ⟨cI0_21, cI1_21, cI2_21, cI3_21, cI4_21, cI5_21, fI0_21, fI1_21, fI2_21, fI3_21, fI4_21, fI5_21, sI_21⟩ := I21.open6; obtain ⟨cJ0_21, cJ1_21, cJ2_21, cJ3_21, cJ4_21, cJ5_21, fJ0_21, fJ1_21, fJ2_21, fJ3_21, fJ4_21, fJ5_21, sJ_21⟩ := J21.open6; obtain ⟨cK0_21, cK1_21, cK2_21, cK3_21, cK4_21, cK5_21, fK0_21, fK1_21, fK2_21, fK3_21, fK4_21, fK5_21, sK_21⟩ := K21.open6; obtain ⟨cL0_21, cL1_21, cL2_21, fL0_21, fL1_21, fL2_21, sL_21⟩ := L21.open3; obtain ⟨cN0_21, cN1_21, cN2_21, fN0_21, fN1_21, fN2_21, sN_21⟩ := N21.open3)
      | fail)
    generalize hbl : w1.heap.size = bl at *
    generalize hbx : bl + 1 + 1 = bx at *
    have Dw : Below w21.heap.size w21 w21.drew := below_drewN (Below.refl _ _) 1
    have xd := x21.below Dw; have pd := p21.below Dw; have id := i21.below Dw; have jd := j21.below Dw; have Td := T21.below Dw; have Pd := P21.below Dw; have Rd := R21.below Dw; have Id := I21.below Dw; have Bd := B21.trans (Dw.mono B21.size)
    have k0 := Lib.hid (cells3 Pd)
    clear x21 y21 p21 i21 j21 k21 l21 g21 h21 a21 b21 T21 P21 Q21 R21 I21 J21 K21 L21 N21 B21
    go_region_held3 (fun w' => w'.cell? ⟨bx, 0, none⟩ = some (.bool false) ∧ w'.cell? ⟨bx, 1, none⟩ = some (.slice (some ⟨bl, 0, none⟩) 1 1) ∧ w'.cell? ⟨bx, 2, none⟩ = some (.int .i64 a2))
      (first | exact k0.out | exact k1.out | exact k2.out)
      (first
        | (go_at_call 29; (with_reducible refine (HO1.out _ Td).mono ?_); rintro e y1 ⟨vo, rfl, od, hy1⟩; obtain ⟨uo, rfl, od⟩ := od; obtain ⟨ao, ko, rfl, -⟩ := od.view; have xe := xd.below hy1; have pe := pd.below hy1; have ie := id.below hy1; have je := jd.below hy1; have Te := Td.below hy1; have Pe := Pd.below hy1; have Re := Rd.below hy1; have Ie := Id.below hy1; have Be := Bd.trans (hy1.mono Bd.size); have k1 := Lib.hid (cells3 Pe))
        | (go_at_call 28; (with_reducible refine (HX1.out _ _ _ xe od Te).mono ?_); rintro e y2 ⟨cc, rfl, hcc, hy2⟩; have pf := pe.below hy2; have ig := ie.below hy2; have jg := je.below hy2; have Tf := Te.below hy2; have Pf := Pe.below hy2; have Rf := Re.below hy2; have If := Ie.below hy2; have Bf := Be.trans (hy2.mono Be.size); have k2 := Lib.hid (cells3 Pf))
        | fail)
    clear xd pd id jd Td Pd Rd Id Bd k0 xe pe ie je Te Pe Re Ie Be k1 k2 od
    obtain ⟨cR0_1, cR1_1, cR2_1, fR0_1, fR1_1, fR2_1, sR_1⟩ := Rf.open3
    obtain ⟨cI0_1, cI1_1, cI2_1, cI3_1, cI4_1, cI5_1, fI0_1, fI1_1, fI2_1, fI3_1, fI4_1, fI5_1, sI_1⟩ := If.open6
    rcases hcc with ⟨ho, rfl⟩ | ⟨ho, rfl⟩ | ⟨ho, rfl⟩
    · have HS2 := Lib.hid (g4.out (Rat.le_of_lt ho))
      go_wp2_with
      (first
        | (go_at_call 30; (with_reducible refine (HSL.out _ _ _ _ _ ig mx1'.out HS2.out).mono ?_); rintro e w41 ⟨c6, rfl, dc6, hb41⟩; have B41 := Bf.trans (hb41.mono Bf.size); have p41 := pf.below hb41; have i41 := ig.below hb41; have j41 := jg.below hb41; have R41 := Rf.below hb41; have I41 := If.below hb41; clear pf ig jg Rf If; obtain ⟨cR0_41, cR1_41, cR2_41, fR0_41, fR1_41, fR2_41, sR_41⟩ := R41.open3; obtain ⟨cI0_41, cI1_41, cI2_41, cI3_41, cI4_41, cI5_41, fI0_41, fI1_41, fI2_41, fI3_41, fI4_41, fI5_41, sI_41⟩ := I41.open6)
        | (go_at_call 31; (with_reducible refine (HPB.out _ _ _ _ _ p41 op'.out).mono ?_); rintro e w42 ⟨c7, rfl, dc7, hb42⟩; have B42 := B41.trans (hb42.mono B41.size); have p42 := p41.below hb42; have i42 := i41.below hb42; have j42 := j41.below hb42; have R42 := R41.below hb42; have I42 := I41.below hb42; clear p41 i41 j41 R41 I41; clear cR0_41 cR1_41 cR2_41 fR0_41 fR1_41 fR2_41 sR_41; obtain ⟨cR0_42, cR1_42, cR2_42, fR0_42, fR1_42, fR2_42, sR_42⟩ := R42.open3; clear cI0_41 cI1_41 cI2_41 cI3_41 cI4_41 cI5_41 fI0_41 fI1_41 fI2_41 fI3_41 fI4_41 fI5_41 sI_41; obtain ⟨cI0_42, cI1_42, cI2_42, cI3_42, cI4_42, cI5_42, fI0_42, fI1_42, fI2_42, fI3_42, fI4_42, fI5_42, sI_42⟩ := I42.open6)
        | fail)
      go_ret
      exact ⟨rfl, by assumption⟩
    · have HS1 := Lib.hid (g3.out (by rw [ho]; exact Rat.le_refl))
      have HS2 := Lib.hid (g4.out (by rw [ho]; exact Rat.le_refl))
      go_wp2_with
      (first
        | (go_at_call 30; (with_reducible refine (HSG.out _ _ _ _ _ jg mx2'.out HS1.out).mono ?_); rintro e w41 ⟨c5', rfl, dc5', hb41⟩; have B41 := Bf.trans (hb41.mono Bf.size); have p41 := pf.below hb41; have i41 := ig.below hb41; have j41 := jg.below hb41; have R41 := Rf.below hb41; have I41 := If.below hb41; clear pf ig jg Rf If; obtain ⟨cR0_41, cR1_41, cR2_41, fR0_41, fR1_41, fR2_41, sR_41⟩ := R41.open3; obtain ⟨cI0_41, cI1_41, cI2_41, cI3_41, cI4_41, cI5_41, fI0_41, fI1_41, fI2_41, fI3_41, fI4_41, fI5_41, sI_41⟩ := I41.open6)
        | (go_at_call 30; (with_reducible refine (HSL.out _ _ _ _ _ i41 mx1'.out HS2.out).mono ?_); rintro e w42 ⟨c6, rfl, dc6, hb42⟩; have B42 := B41.trans (hb42.mono B41.size); have p42 := p41.below hb42; have i42 := i41.below hb42; have j42 := j41.below hb42; have R42 := R41.below hb42; have I42 := I41.below hb42; clear p41 i41 j41 R41 I41; clear cR0_41 cR1_41 cR2_41 fR0_41 fR1_41 fR2_41 sR_41; obtain ⟨cR0_42, cR1_42, cR2_42, fR0_42, fR1_42, fR2_42, sR_42⟩ := R42.open3; clear cI0_41 cI1_41 cI2_41 cI3_41 cI4_41 cI5_41 fI0_41 fI1_41 fI2_41 fI3_41 fI4_41 fI5_41 sI_41; obtain ⟨cI0_42, cI1_42, cI2_42, cI3_42, cI4_42, cI5_42, fI0_42, fI1_42, fI2_42, fI3_42, fI4_42, fI5_42, sI_42⟩ := I42.open6)
        | (go_at_call 31; (with_reducible refine (HPB.out _ _ _ _ _ p42 op'.out).mono ?_); rintro e w43 ⟨c7, rfl, dc7, hb43⟩; have B43 := B42.trans (hb43.mono B42.size); have p43 := p42.below hb43; have i43 := i42.below hb43; have j43 := j42.below hb43; have R43 := R42.below hb43; have I43 := I42.below hb43; clear p42 i42 j42 R42 I42; clear cR0_42 cR1_42 cR2_42 fR0_42 fR1_42 fR2_42 sR_42; obtain ⟨cR0_43, cR1_43, cR2_43, fR0_43, fR1_43, fR2_43, sR_43⟩ := R43.open3; clear cI0_42 cI1_42 cI2_42 cI3_42 cI4_42 cI5_42 fI0_42 fI1_42 fI2_42 fI3_42 fI4_42 fI5_42 sI_42; obtain ⟨cI0_43, cI1_43, cI2_43, cI3_43, cI4_43, cI5_43, fI0_43, fI1_43, fI2_43, fI3_43, fI4_43, fI5_43, sI_43⟩ := I43.open6)
        | fail)
      go_ret
      exact ⟨rfl, by assumption⟩
    · have HS1 := Lib.hid (g3.out (Rat.le_of_lt ho))
      go_wp2_with
      (first
        | (go_at_call 30; (with_reducible refine (HSG.out _ _ _ _ _ jg mx2'.out HS1.out).mono ?_); rintro e w41 ⟨c5', rfl, dc5', hb41⟩; have B41 := Bf.trans (hb41.mono Bf.size); have p41 := pf.below hb41; have i41 := ig.below hb41; have j41 := jg.below hb41; have R41 := Rf.below hb41; have I41 := If.below hb41; clear pf ig jg Rf If; obtain ⟨cR0_41, cR1_41, cR2_41, fR0_41, fR1_41, fR2_41, sR_41⟩ := R41.open3; obtain ⟨cI0_41, cI1_41, cI2_41, cI3_41, cI4_41, cI5_41, fI0_41, fI1_41, fI2_41, fI3_41, fI4_41, fI5_41, sI_41⟩ := I41.open6)
        | (go_at_call 31; (with_reducible refine (HPB.out _ _ _ _ _ p41 op'.out).mono ?_); rintro e w42 ⟨c7, rfl, dc7, hb42⟩; have B42 := B41.trans (hb42.mono B41.size); have p42 := p41.below hb42; have i42 := i41.below hb42; have j42 := j41.below hb42; have R42 := R41.below hb42; have I42 := I41.below hb42; clear p41 i41 j41 R41 I41; clear cR0_41 cR1_41 cR2_41 fR0_41 fR1_41 fR2_41 sR_41; obtain ⟨cR0_42, cR1_42, cR2_42, fR0_42, fR1_42, fR2_42, sR_42⟩ := R42.open3; clear cI0_41 cI1_41 cI2_41 cI3_41 cI4_41 cI5_41 fI0_41 fI1_41 fI2_41 fI3_41 fI4_41 fI5_41 sI_41; obtain ⟨cI0_42, cI1_42, cI2_42, cI3_42, cI4_42, cI5_42, fI0_42, fI1_42, fI2_42, fI3_42, fI4_42, fI5_42, sI_42⟩ := I42.open6)
        | fail)
      go_ret
      exact ⟨rfl, by assumption⟩
  · have HG1 := Lib.hid (g1.out (by rw [hq]; exact Rat.le_refl))
    have HG2 := Lib.hid (g2.out (by rw [hq]; exact Rat.le_refl))
    go_upto_region 20 with
    (first
      | (go_at_call 28; (with_reducible refine (HCM.out _ _ _ _ _ _ _ _ _ i15 l15 T15 nx1.out ny2.out HG1.out).mono ?_); rintro e w21 ⟨c4, rfl, dc4, dd4, hb21⟩; have B21 := B15.trans (hb21.mono B15.size); have x21 := x15.below hb21; have y21 := y15.below hb21; have p21 := p15.below hb21; have i21 := i15.below hb21; have j21 := j15.below hb21; have k21 := k15.below hb21; have l21 := l15.below hb21; have g21 := g15.below hb21; have h21 := h15.below hb21; have a21 := a15.below hb21; have b21 := b15.below hb21; have T21 := T15.below hb21; have P21 := P15.below hb21; have Q21 := Q15.below hb21; have R21 := R15.below hb21; have I21 := I15.below hb21; have J21 := J15.below hb21; have K21 := K15.below hb21; have L21 := L15.below hb21; have N21 := N15.below hb21; clear x15 y15 p15 i15 j15 k15 l15 g15 h15 a15 b15 T15 P15 Q15 R15 I15 J15 K15 L15 N15; obtain ⟨cP0_21, cP1_21, cP2_21, fP0_21, fP1_21, fP2_21, sP_21⟩ := P21.open3; obtain ⟨cQ0_21, cQ1_21, cQ2_21, fQ0_21, fQ1_21, fQ2_21, sQ_21⟩ := Q21.open3; obtain ⟨cR0_21, cR1_21, cR2_21, fR0_21, fR1_21, fR2_21, sR_21⟩ := R21.open3; obtain ⟨cI0_21, cI1_21, cI2_21, cI3_21, cI4_21, cI5_21, fI0_21, fI1_21, fI2_21, fI3_21, fI4_21, fI5_21, sI_21⟩ := I21.open6; obtain ⟨cJ0_21, cJ1_21, cJ2_21, cJ3_21, cJ4_21, cJ5_21, fJ0_21, fJ1_21, fJ2_21, fJ3_21, fJ4_21, fJ5_21, sJ_21⟩ := J21.open6; obtain ⟨cK0_21, cK1_21, cK2_21, cK3_21, cK4_21, cK5_21, fK0_21, fK1_21, fK2_21, fK3_21, fK4_21, fK5_21, sK_21⟩ := K21.open6; obtain ⟨cL0_21, cL1_21, cL2_21, fL0_21, fL1_21, fL2_21, sL_21⟩ := L21.open3; obtain ⟨cN0_21, cN1_21, cN2_21, fN0_21, fN1_21, fN2_21, sN_21⟩ := N21.open3)
      | (go_at_call 28; (with_reducible refine (HCM.out _ _ _ _ _ _ _ _ _ k21 j21 T21 ny1.out nx2.out HG2.out).mono ?_); rintro e w22 ⟨c5, rfl, dc5, dd5, hb22⟩; have B22 := B21.trans (hb22.mono B21.size); have x22 := x21.below hb22; have y22 := y21.below hb22; have p22 := p21.below hb22; have i22 := i21.below hb22; have j22 := j21.below hb22; have k22 := k21.below hb22; have l22 := l21.below hb22; have g22 := g21.below hb22; have h22 := h21.below hb22; have a22 := a21.below hb22; have b22 := b21.below hb22; have T22 := T21.below hb22; have P22 := P21.below hb22; have Q22 := Q21.below hb22; have R22 := R21.below hb22; have I22 := I21.below hb22; have J22 := J21.below hb22; have K22 := K21.below hb22; have L22 := L21.below hb22; have N22 := N21.below hb22; clear x21 y21 p21 i21 j21 k21 l21 g21 h21 a21 b21 T21 P21 Q21 R21 I21 J21 K21 L21 N21; clear cP0_21 cP1_21 cP2_21 fP0_21 fP1_21 fP2_21 sP_21; obtain ⟨cP0_22, cP1_22, cP2_22, fP0_22, fP1_22, fP2_22, sP_22⟩ := P22.open3; clear cQ0_21 cQ1_21 cQ2_21 fQ0_21 fQ1_21 fQ2_21 sQ_21; obtain ⟨cQ0_22, cQ1_22, cQ2_22, fQ0_22, fQ1_22, fQ2_22, sQ_22⟩ := Q22.open3; clear cR0_21 cR1_21 cR2_21 fR0_21 fR1_21 fR2_21 sR_21; obtain ⟨cR0_22, cR1_22, cR2_22, fR0_22, fR1_22, fR2_22, sR_22⟩ := R22.open3; clear cI0_21 cI1_21 cI2_21 cI3_21 cI4_21 cI5_21 fI0_21 fI1_21 fI2_21 fI3_21 fI4_21 fI5_21 sI_21; obtain ⟨cI0_22, cI1_22, cI2_22, cI3_22, cI4_22, cI5_22, fI0_22, fI1_22, fI2_22, fI3_22, fI4_22, fI5_22, sI_22⟩ := I22.open6; clear cJ0_21 cJ1_21 cJ2_21 cJ3_21 cJ4_21 cJ5_21 fJ0_21 fJ1_21 fJ2_21 fJ3_21 fJ4_21 fJ5_21 sJ_21; obtain ⟨cJ0_22, cJ1_22, cJ2_22, cJ3_22, cJ4_22, cJ5_22, fJ0_22, fJ1_22, fJ2_22, fJ3_22, fJ4_22, fJ5_22, sJ_22⟩ := J22.open6; clear cK0_21 cK1_21 cK2_21 cK3_21 cK4_21 cK5_21 fK0_21 fK1_21 fK2_21 fK3_21 fK4_21 fK5_21 sK_21; obtain ⟨cK0_22, cK1_22, cK2_22, cK3_22, cK4_22, cK5_22, fK0_22, fK1_22, fK2_22, fK3_22, fK4_22, fK5_22, sK_22⟩ := K22.open6; clear cL0_21 cL1_21 cL2_21 fL0_21 fL1_21 fL2_21 sL_21; obtain ⟨cL0_22, cL1_22, cL2_22, fL0_22, fL1_22, fL2_22, sL_22⟩ := L22.open3; clear cN0_21 cN1_21 cN2_21 fN0_21 fN1_21 fN2_21 sN_21; obtain ⟨cN0_22, cN1_22, cN2_22, fN0_22, fN1_22, fN2_22, sN_22⟩ := N22.open3)
      | fail)
    generalize hbl : w1.heap.size = bl at *
    generalize hbx : bl + 1 + 1 = bx at *
    have Dw : Below w22.heap.size w22 w22.drew := below_drewN (Below.refl _ _) 1
    have xd := x22.below Dw; have pd := p22.below Dw; have id := i22.below Dw; have jd := j22.below Dw; have Td := T22.below Dw; have Pd := P22.below Dw; have Rd := R22.below Dw; have Id := I22.below Dw; have Bd := B22.trans (Dw.mono B22.size)
    have k0 := Lib.hid (cells3 Pd)
    clear x22 y22 p22 i22 j22 k22 l22 g22 h22 a22 b22 T22 P22 Q22 R22 I22 J22 K22 L22 N22 B22
    go_region_held3 (fun w' => w'.cell? ⟨bx, 0, none⟩ = some (.bool false) ∧ w'.cell? ⟨bx, 1, none⟩ = some (.slice (some ⟨bl, 0, none⟩) 1 1) ∧ w'.cell? ⟨bx, 2, none⟩ = some (.int .i64 a2))
      (first | exact k0.out | exact k1.out | exact k2.out)
      (first
        | (go_at_call 29; (with_reducible refine (HO1.out _ Td).mono ?_); rintro e y1 ⟨vo, rfl, od, hy1⟩; obtain ⟨uo, rfl, od⟩ := od; obtain ⟨ao, ko, rfl, -⟩ := od.view; have xe := xd.below hy1; have pe := pd.below hy1; have ie := id.below hy1; have je := jd.below hy1; have Te := Td.below hy1; have Pe := Pd.below hy1; have Re := Rd.below hy1; have Ie := Id.below hy1; have Be := Bd.trans (hy1.mono Bd.size); have k1 := Lib.hid (cells3 Pe))
        | (go_at_call 28; (with_reducible refine (HX1.out _ _ _ xe od Te).mono ?_); rintro e y2 ⟨cc, rfl, hcc, hy2⟩; have pf := pe.below hy2; have ig := ie.below hy2; have jg := je.below hy2; have Tf := Te.below hy2; have Pf := Pe.below hy2; have Rf := Re.below hy2; have If := Ie.below hy2; have Bf := Be.trans (hy2.mono Be.size); have k2 := Lib.hid (cells3 Pf))
        | fail)
    clear xd pd id jd Td Pd Rd Id Bd k0 xe pe ie je Te Pe Re Ie Be k1 k2 od
    obtain ⟨cR0_1, cR1_1, cR2_1, fR0_1, fR1_1, fR2_1, sR_1⟩ := Rf.open3
    obtain ⟨cI0_1, cI1_1, cI2_1, cI3_1, cI4_1, cI5_1, fI0_1, fI1_1, fI2_1, fI3_1, fI4_1, fI5_1, sI_1⟩ := If.open6
    rcases hcc with ⟨ho, rfl⟩ | ⟨ho, rfl⟩ | ⟨ho, rfl⟩
    · have HS2 := Lib.hid (g4.out (Rat.le_of_lt ho))
      go_wp2_with
      (first
        | (go_at_call 30; (with_reducible refine (HSL.out _ _ _ _ _ ig mx1'.out HS2.out).mono ?_); rintro e w41 ⟨c6, rfl, dc6, hb41⟩; have B41 := Bf.trans (hb41.mono Bf.size); have p41 := pf.below hb41; have i41 := ig.below hb41; have j41 := jg.below hb41; have R41 := Rf.below hb41; have I41 := If.below hb41; clear pf ig jg Rf If; obtain ⟨cR0_41, cR1_41, cR2_41, fR0_41, fR1_41, fR2_41, sR_41⟩ := R41.open3; obtain ⟨cI0_41, cI1_41, cI2_41, cI3_41, cI4_41, cI5_41, fI0_41, fI1_41, fI2_41, fI3_41, fI4_41, fI5_41, sI_41⟩ := I41.open6)
        | (go_at_call 31; (with_reducible refine (HPB.out _ _ _ _ _ p41 op'.out).mono ?_); rintro e w42 ⟨c7, rfl, dc7, hb42⟩; have B42 := B41.trans (hb42.mono B41.size); have p42 := p41.below hb42; have i42 := i41.below hb42; have j42 := j41.below hb42; have R42 := R41.below hb42; have I42 := I41.below hb42; clear p41 i41 j41 R41 I41; clear cR0_41 cR1_41 cR2_41 fR0_41 fR1_41 fR2_41 sR_41; obtain ⟨cR0_42, cR1_42, cR2_42, fR0_42, fR1_42, fR2_42, sR_42⟩ := R42.open3; clear cI0_41 cI1_41 cI2_41 cI3_41 cI4_41 cI5_41 fI0_41 fI1_41 fI2_41 fI3_41 fI4_41 fI5_41 sI_41; obtain ⟨cI0_42, cI1_42, cI2_42, cI3_42, cI4_42, cI5_42, fI0_42, fI1_42, fI2_42, fI3_42, fI4_42, fI5_42, sI_42⟩ := I42.open6)
        | fail)
      go_ret
      exact ⟨rfl, by assumption⟩
    · have HS1 := Lib.hid (g3.out (by rw [ho]; exact Rat.le_refl))
      have HS2 := Lib.hid (g4.out (by rw [ho]; exact Rat.le_refl))
      go_wp2_with
      (first
        | (go_at_call 30; (with_reducible refine (HSG.out _ _ _ _ _ jg mx2'.out HS1.out).mono ?_); rintro e w41 ⟨c5', rfl, dc5', hb41⟩; have B41 := Bf.trans (hb41.mono Bf.size); have p41 := pf.below hb41; have i41 := ig.below hb41; have j41 := jg.below hb41; have R41 := Rf.below hb41; have I41 := If.below hb41; clear pf ig jg Rf If; obtain ⟨cR0_41, cR1_41, cR2_41, fR0_41, fR1_41, fR2_41, sR_41⟩ := R41.open3; obtain ⟨cI0_41, cI1_41, cI2_41, cI3_41, cI4_41, cI5_41, fI0_41, fI1_41, fI2_41, fI3_41, fI4_41, fI5_41, sI_41⟩ := I41.open6)
        | (go_at_call 30; (with_reducible refine (HSL.out _ _ _ _ _ i41 mx1'.out HS2.out).mono ?_); rintro e w42 ⟨c6, rfl, dc6, hb42⟩; have B42 := B41.trans (hb42.mono B41.size); have p42 := p41.below hb42; have i42 := i41.below hb42; have j42 := j41.below hb42; have R42 := R41.below hb42; have I42 := I41.below hb42; clear p41 i41 j41 R41 I41; clear cR0_41 cR1_41 cR2_41 fR0_41 fR1_41 fR2_41 sR_41; obtain ⟨cR0_42, cR1_42, cR2_42, fR0_42, fR1_42, fR2_42, sR_42⟩ := R42.open3; clear cI0_41 cI1_41 cI2_41 cI3_41 cI4_41 cI5_41 fI0_41 fI1_41 fI2_41 fI3_41 fI4_41 fI5_41 sI_41; obtain ⟨cI0_42, cI1_42, cI2_42, cI3_42, cI4_42, cI5_42, fI0_42, fI1_42, fI2_42, fI3_42, fI4_42, fI5_42, sI_42⟩ := I42.open6)
        | (go_at_call 31; (with_reducible refine (HPB.out _ _ _ _ _ p42 op'.out).mono ?_); rintro e w43 ⟨c7, rfl, dc7, hb43⟩; have B43 := B42.trans (hb43.mono B42.size); have p43 := p42.below hb43; have i43 := i42.below hb43; have j43 := j42.below hb43; have R43 := R42.below hb43; have I43 := I42.below hb43; clear p42 i42 j42 R42 I42; clear cR0_42 cR1_42 cR2_42 fR0_42 fR1_42 fR2_42 sR_42; obtain ⟨cR0_43, cR1_43, cR2_43, fR0_43, fR1_43, fR2_43, sR_43⟩ := R43.open3; clear cI0_42 cI1_42 cI2_42 cI3_42 cI4_42 cI5_42 fI0_42 fI1_42 fI2_42 fI3_42 fI4_42 fI5_42 sI_42; obtain ⟨cI0_43, cI1_43, cI2_43, cI3_43, cI4_43, cI5_43, fI0_43, fI1_43, fI2_43, fI3_43, fI4_43, fI5_43, sI_43⟩ := I43.open6)
        | fail)
      go_ret
      exact ⟨rfl, by assumption⟩
    · have HS1 := Lib.hid (g3.out (Rat.le_of_lt ho))
      go_wp2_with
      (first
        | (go_at_call 30; (with_reducible refine (HSG.out _ _ _ _ _ jg mx2'.out HS1.out).mono ?_); rintro e w41 ⟨c5', rfl, dc5', hb41⟩; have B41 := Bf.trans (hb41.mono Bf.size); have p41 := pf.below hb41; have i41 := ig.below hb41; have j41 := jg.below hb41; have R41 := Rf.below hb41; have I41 := If.below hb41; clear pf ig jg Rf If; obtain ⟨cR0_41, cR1_41, cR2_41, fR0_41, fR1_41, fR2_41, sR_41⟩ := R41.open3; obtain ⟨cI0_41, cI1_41, cI2_41, cI3_41, cI4_41, cI5_41, fI0_41, fI1_41, fI2_41, fI3_41, fI4_41, fI5_41, sI_41⟩ := I41.open6)
        | (go_at_call 31; (with_reducible refine (HPB.out _ _ _ _ _ p41 op'.out).mono ?_); rintro e w42 ⟨c7, rfl, dc7, hb42⟩; have B42 := B41.trans (hb42.mono B41.size); have p42 := p41.below hb42; have i42 := i41.below hb42; have j42 := j41.below hb42; have R42 := R41.below hb42; have I42 := I41.below hb42; clear p41 i41 j41 R41 I41; clear cR0_41 cR1_41 cR2_41 fR0_41 fR1_41 fR2_41 sR_41; obtain ⟨cR0_42, cR1_42, cR2_42, fR0_42, fR1_42, fR2_42, sR_42⟩ := R42.open3; clear cI0_41 cI1_41 cI2_41 cI3_41 cI4_41 cI5_41 fI0_41 fI1_41 fI2_41 fI3_41 fI4_41 fI5_41 sI_41; obtain ⟨cI0_42, cI1_42, cI2_42, cI3_42, cI4_42, cI5_42, fI0_42, fI1_42, fI2_42, fI3_42, fI4_42, fI5_42, sI_42⟩ := I42.open6)
        | fail)
      go_ret
      exact ⟨rfl, by assumption⟩
  · have HG2 := Lib.hid (g2.out (Rat.le_of_lt hq))
    go_upto_region 20 with
    (first
      | (go_at_call 28; (with_reducible refine (HCM.out _ _ _ _ _ _ _ _ _ k15 j15 T15 ny1.out nx2.out HG2.out).mono ?_); rintro e w21 ⟨c5, rfl, dc5, dd5, hb21⟩; have B21 := B15.trans (hb21.mono B15.size); have x21 := x15.below hb21; have y21 := y15.below hb21; have p21 := p15.below hb21; have i21 := i15.below hb21; have j21 := j15.below hb21; have k21 := k15.below hb21; have l21 := l15.below hb21; have g21 := g15.below hb21; have h21 := h15.below hb21; have a21 := a15.below hb21; have b21 := b15.below hb21; have T21 := T15.below hb21; have P21 := P15.below hb21; have Q21 := Q15.below hb21; have R21 := R15.below hb21; have I21 := I15.below hb21; have J21 := J15.below hb21; have K21 := K15.below hb21; have L21 := L15.below hb21; have N21 := N15.below hb21; clear x15 y15 p15 i15 j15 k15 l15 g15 h15 a15 b15 T15 P15 Q15 R15 I15 J15 K15 L15 N15; obtain ⟨cP0_21, cP1_21, cP2_21, fP0_21, fP1_21, fP2_21, sP_21⟩ := P21.open3; obtain ⟨cQ0_21, cQ1_21, cQ2_21, fQ0_21, fQ1_21, fQ2_21, sQ_21⟩ := Q21.open3; obtain ⟨cR0_21, cR1_21, cR2_21, fR0_21, fR1_21, fR2_21, sR_21⟩ := R21.open3; obtain ⟨cI0_21, cI1_21, cI2_21, cI3_21, cI4_21, cI5_21, fI0_21, fI1_21, fI2_21, fI3_21, fI4_21, fI5_21, sI_21⟩ := I21.open6; obtain ⟨cJ0_21, cJ1_21, cJ2_21, cJ3_21, cJ4_21, cJ5_21, fJ0_21, fJ1_21, fJ2_21, fJ3_21, fJ4_21, fJ5_21, sJ_21⟩ := J21.open6; obtain ⟨cK0_21, cK1_21, cK2_21, cK3_21, cK4_21, cK5_21, fK0_21, fK1_21, fK2_21, fK3_21, fK4_21, fK5_21, sK_21⟩ := K21.open6; obtain ⟨cL0_21, cL1_21, cL2_21, fL0_21, fL1_21, fL2_21, sL_21⟩ := L21.open3; obtain ⟨cN0_21, cN1_21, cN2_21, fN0_21, fN1_21, fN2_21, sN_21⟩ := N21.open3)
      | fail)
    generalize hbl : w1.heap.size = bl at *
    generalize hbx : bl + 1 + 1 = bx at *
    have Dw : Below w21.heap.size w21 w21.drew := below_drewN (Below.refl _ _) 1
    have xd := x21.below Dw; have pd := p21.below Dw; have id := i21.below Dw; have jd := j21.below Dw; have Td := T21.below Dw; have Pd := P21.below Dw; have Rd := R21.below Dw; have Id := I21.below Dw; have Bd := B21.trans (Dw.mono B21.size)
    have k0 := Lib.hid (cells3 Pd)
    clear x21 y21 p21 i21 j21 k21 l21 g21 h21 a21 b21 T21 P21 Q21 R21 I21 J21 K21 L21 N21 B21
    go_region_held3 (fun w' => w'.cell? ⟨bx, 0, none⟩ = some (.bool false) ∧ w'.cell? ⟨bx, 1, none⟩ = some (.slice (some ⟨bl, 0, none⟩) 1 1) ∧ w'.cell? ⟨bx, 2, none⟩ = some (.int .i64 a2))
      (first | exact k0.out | exact k1.out | exact k2.out)
      (first
        | (go_at_call 29; (with_reducible refine (HO1.out _ Td).mono ?_); rintro e y1 ⟨vo, rfl, od, hy1⟩; obtain ⟨uo, rfl, od⟩ := od; obtain ⟨ao, ko, rfl, -⟩ := od.view; have xe := xd.below hy1; have pe := pd.below hy1; have ie := id.below hy1; have je := jd.below hy1; have Te := Td.below hy1; have Pe := Pd.below hy1; have Re := Rd.below hy1; have Ie := Id.below hy1; have Be := Bd.trans (hy1.mono Bd.size); have k1 := Lib.hid (cells3 Pe))
        | (go_at_call 28; (with_reducible refine (HX1.out _ _ _ xe od Te).mono ?_); rintro e y2 ⟨cc, rfl, hcc, hy2⟩; have pf := pe.below hy2; have ig := ie.below hy2; have jg := je.below hy2; have Tf := Te.below hy2; have Pf := Pe.below hy2; have Rf := Re.below hy2; have If := Ie.below hy2; have Bf := Be.trans (hy2.mono Be.size); have k2 := Lib.hid (cells3 Pf))
        | fail)
    clear xd pd id jd Td Pd Rd Id Bd k0 xe pe ie je Te Pe Re Ie Be k1 k2 od
    obtain ⟨cR0_1, cR1_1, cR2_1, fR0_1, fR1_1, fR2_1, sR_1⟩ := Rf.open3
    obtain ⟨cI0_1, cI1_1, cI2_1, cI3_1, cI4_1, cI5_1, fI0_1, fI1_1, fI2_1, fI3_1, fI4_1, fI5_1, sI_1⟩ := If.open6
    rcases hcc with ⟨ho, rfl⟩ | ⟨ho, rfl⟩ | ⟨ho, rfl⟩
    · have HS2 := Lib.hid (g4.out (Rat.le_of_lt ho))
      go_wp2_with
      (first
        | (go_at_call 30; (with_reducible refine (HSL.out _ _ _ _ _ ig mx1'.out HS2.out).mono ?_); rintro e w41 ⟨c6, rfl, dc6, hb41⟩; have B41 := Bf.trans (hb41.mono Bf.size); have p41 := pf.below hb41; have i41 := ig.below hb41; have j41 := jg.below hb41; have R41 := Rf.below hb41; have I41 := If.below hb41; clear pf ig jg Rf If; obtain ⟨cR0_41, cR1_41, cR2_41, fR0_41, fR1_41, fR2_41, sR_41⟩ := R41.open3; obtain ⟨cI0_41, cI1_41, cI2_41, cI3_41, cI4_41, cI5_41, fI0_41, fI1_41, fI2_41, fI3_41, fI4_41, fI5_41, sI_41⟩ := I41.open6)
        | (go_at_call 31; (with_reducible refine (HPB.out _ _ _ _ _ p41 op'.out).mono ?_); rintro e w42 ⟨c7, rfl, dc7, hb42⟩; have B42 := B41.trans (hb42.mono B41.size); have p42 := p41.below hb42; have i42 := i41.below hb42; have j42 := j41.below hb42; have R42 := R41.below hb42; have I42 := I41.below hb42; clear p41 i41 j41 R41 I41; clear cR0_41 cR1_41 cR2_41 fR0_41 fR1_41 fR2_41 sR_41; obtain ⟨cR0_42, cR1_42, cR2_42, fR0_42, fR1_42, fR2_42, sR_42⟩ := R42.open3; clear cI0_41 cI1_41 cI2_41 cI3_41 cI4_41 cI5_41 fI0_41 fI1_41 fI2_41 fI3_41 fI4_41 fI5_41 sI_41; obtain ⟨cI0_42, cI1_42, cI2_42, cI3_42, cI4_42, cI5_42, fI0_42, fI1_42, fI2_42, fI3_42, fI4_42, fI5_42, sI_42⟩ := I42.open6)
        | fail)
      go_ret
      exact ⟨rfl, by assumption⟩
    · have HS1 := Lib.hid (g3.out (by rw [ho]; exact Rat.le_refl))
      have HS2 := Lib.hid (g4.out (by rw [ho]; exact Rat.le_refl))
      go_wp2_with
      (first
        | (go_at_call 30; (with_reducible refine (HSG.out _ _ _ _ _ jg mx2'.out HS1.out).mono ?_); rintro e w41 ⟨c5', rfl, dc5', hb41⟩; have B41 := Bf.trans (hb41.mono Bf.size); have p41 := pf.below hb41; have i41 := ig.below hb41; have j41 := jg.below hb41; have R41 := Rf.below hb41; have I41 := If.below hb41; clear pf ig jg Rf If; obtain ⟨cR0_41, cR1_41, cR2_41, fR0_41, fR1_41, fR2_41, sR_41⟩ := R41.open3; obtain ⟨cI0_41, cI1_41, cI2_41, cI3_41, cI4_41, cI5_41, fI0_41, fI1_41, fI2_41, fI3_41, fI4_41, fI5_41, sI_41⟩ := I41.open6)
        | (go_at_call 30; (with_reducible refine (HSL.out _ _ _ _ _ i41 mx1'.out HS2.out).mono ?_); rintro e w42 ⟨c6, rfl, dc6, hb42⟩; have B42 := B41.trans (hb42.mono B41.size); have p42 := p41.below hb42; have i42 := i41.below hb42; have j42 := j41.below hb42; have R42 := R41.below hb42; have I42 := I41.below hb42; clear p41 i41 j41 R41 I41; clear cR0_41 cR1_41 cR2_41 fR0_41 fR1_41 fR2_41 sR_41; obtain ⟨cR0_42, cR1_42, cR2_42, fR0_42, fR1_42, fR2_42, sR_42⟩ := R42.open3; clear cI0_41 cI1_41 cI2_41 cI3_41 cI4_41 cI5_41 fI0_41 fI1_41 fI2_41 fI3_41 fI4_41 fI5_41 sI_41; obtain ⟨cI0_42, cI1_42, cI2_42, cI3_42, cI4_42, cI5_42, fI0_42, fI1_42, fI2_42, fI3_42, fI4_42, fI5_42, sI_42⟩ := I42.open6)
        | (go_at_call 31; (with_reducible refine (HPB.out _ _ _ _ _ p42 op'.out).mono ?_); rintro e w43 ⟨c7, rfl, dc7, hb43⟩; have B43 := B42.trans (hb43.mono B42.size); have p43 := p42.below hb43; have i43 := i42.below hb43; have j43 := j42.below hb43; have R43 := R42.below hb43; have I43 := I42.below hb43; clear p42 i42 j42 R42 I42; clear cR0_42 cR1_42 cR2_42 fR0_42 fR1_42 fR2_42 sR_42; obtain ⟨cR0_43, cR1_43, cR2_43, fR0_43, fR1_43, fR2_43, sR_43⟩ := R43.open3; clear cI0_42 cI1_42 cI2_42 cI3_42 cI4_42 cI5_42 fI0_42 fI1_42 fI2_42 fI3_42 fI4_42 fI5_42 sI_42; obtain ⟨cI0_43, cI1_43, cI2_43, cI3_43, cI4_43, cI5_43, fI0_43, fI1_43, fI2_43, fI3_43, fI4_43, fI5_43, sI_43⟩ := I43.open6)
        | fail)
      go_ret
      exact ⟨rfl, by assumption⟩
    · have HS1 := Lib.hid (g3.out (Rat.le_of_lt ho))
      go_wp2_with
      (first
        | (go_at_call 30; (with_reducible refine (HSG.out _ _ _ _ _ jg mx2'.out HS1.out).mono ?_); rintro e w41 ⟨c5', rfl, dc5', hb41⟩; have B41 := Bf.trans (hb41.mono Bf.size); have p41 := pf.below hb41; have i41 := ig.below hb41; have j41 := jg.below hb41; have R41 := Rf.below hb41; have I41 := If.below hb41; clear pf ig jg Rf If; obtain ⟨cR0_41, cR1_41, cR2_41, fR0_41, fR1_41, fR2_41, sR_41⟩ := R41.open3; obtain ⟨cI0_41, cI1_41, cI2_41, cI3_41, cI4_41, cI5_41, fI0_41, fI1_41, fI2_41, fI3_41, fI4_41, fI5_41, sI_41⟩ := I41.open6)
        | (go_at_call 31; (with_reducible refine (HPB.out _ _ _ _ _ p41 op'.out).mono ?_); rintro e w42 ⟨c7, rfl, dc7, hb42⟩; have B42 := B41.trans (hb42.mono B41.size); have p42 := p41.below hb42; have i42 := i41.below hb42; have j42 := j41.below hb42; have R42 := R41.below hb42; have I42 := I41.below hb42; clear p41 i41 j41 R41 I41; clear cR0_41 cR1_41 cR2_41 fR0_41 fR1_41 fR2_41 sR_41; obtain ⟨cR0_42, cR1_42, cR2_42, fR0_42, fR1_42, fR2_42, sR_42⟩ := R42.open3; clear cI0_41 cI1_41 cI2_41 cI3_41 cI4_41 cI5_41 fI0_41 fI1_41 fI2_41 fI3_41 fI4_41 fI5_41 sI_41; obtain ⟨cI0_42, cI1_42, cI2_42, cI3_42, cI4_42, cI5_42, fI0_42, fI1_42, fI2_42, fI3_42, fI4_42, fI5_42, sI_42⟩ := I42.open6)
        | fail)
      go_ret
      exact ⟨rfl, by assumption⟩
end Go.Proofs.YtngicppjljbafaaDoor.PLRules
