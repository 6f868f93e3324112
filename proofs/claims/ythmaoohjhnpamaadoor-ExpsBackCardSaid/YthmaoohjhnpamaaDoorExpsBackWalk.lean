/- ExpsBack returns true and leaves what was there: the walk. Conditions: math/bits' table stands in its variable. -/
import Derived.Test.YthmaoohjhnpamaaDoorEp5
import Derived.Test.YthmaoohjhnpamaaDoorExpsLaw5
import Derived.Test.YthmaoohjhnpamaaDoorLog6
import Derived.Test.YthmaoohjhnpamaaDoorDyMul
namespace Go.Proofs.YthmaoohjhnpamaaDoor.PEBack
set_option maxRecDepth 100000
open Go.RowKit Go.Proofs.YthmaoohjhnpamaaDoor
set_option linter.unusedVariables false
set_option linter.unusedSimpArgs false

theorem top_bare {n n' : Bool} {a M : Nat} {e E : Int} (h0 : a ≠ 0) (h1 : -2147483648 ≤ e) (h2 : e ≤ 2147483648) (q : bareD ⟨n, a, e⟩ = ⟨n', M, E⟩) : topD ⟨n', M, E⟩ = (bitN a : Int) - 1 + e := by
  have hl := bitN_low2 h0
  rw [bareD_pos h0] at q
  dsimp only at q
  have hc : cutE e = e := by unfold cutE; omega
  injection q with _ q2 q3
  rw [hc] at q3
  unfold topD
  dsimp only
  rw [← q2, ← q3]
  omega

set_option maxRecDepth 100000 in
set_option maxHeartbeats 8000000 in
theorem walk (ai ei bi si : Int) (w : World) (wa : (Lit.int .u64 ai).wf = true) (we : (Lit.int .i16 ei).wf = true) (wb : (Lit.int .u64 bi).wf = true) (ws : (Lit.int .u8 si).wf = true) (hT : Tab w) :
    Calls Tryd.prog 3 #[.int .u64 ai, .int .i16 ei, .int .u64 bi, .int .u8 si] w fun e w' => e = .returned (.bool true) ∧ Below w.heap.size w w' := by
  have h1 : 0 ≤ ai ∧ ai ≤ 18446744073709551615 := by simpa [Lit.wf, IntKind.min, IntKind.max, IntKind.bits, IntKind.signed] using wa
  have h2 : -32768 ≤ ei ∧ ei ≤ 32767 := by simpa [Lit.wf, IntKind.min, IntKind.max, IntKind.bits, IntKind.signed] using we
  have h3 : 0 ≤ bi ∧ bi ≤ 18446744073709551615 := by simpa [Lit.wf, IntKind.min, IntKind.max, IntKind.bits, IntKind.signed] using wb
  have h4 : 0 ≤ si ∧ si ≤ 255 := by simpa [Lit.wf, IntKind.min, IntKind.max, IntKind.bits, IntKind.signed] using ws
  clear wa we wb ws
  obtain ⟨a, rfl⟩ : ∃ n : Nat, ai = (n : Int) := ⟨ai.toNat, by omega⟩
  obtain ⟨b, rfl⟩ : ∃ n : Nat, bi = (n : Int) := ⟨bi.toNat, by omega⟩
  obtain ⟨sn, rfl⟩ : ∃ n : Nat, si = (n : Int) := ⟨si.toNat, by omega⟩
  have HAL := Lib.hid (fun w (hT : Tab w) => alive14_any (w := w) hT)
  by_cases h0 : a = 0
  · have d0 : ((a : Int) == 0) = true := by rw [h0]; rfl
    have d0' : (a == 0) = true := by rw [h0]; rfl
    clear h1 h2 h3 h4
    subst h0
    go_enter Tryd.func3, Tryd.ntmps3
    go_wp2_with
    (first
      | (go_at_call 4; (with_reducible refine (HAL.out _ hT).mono ?_); rintro e w1 ⟨rfl, hb1⟩; have B1 := hb1; have T1 := hT.below hb1; clear hT)
      | fail)
    all_goals
      go_ret
      exact ⟨rfl, by assumption⟩
  have hBB : BB = 18446744073709551616 := rfl
  have haB : a < BB := by omega
  obtain ⟨en, hen⟩ : ∃ x, ei.tmod 1000 = x := ⟨_, rfl⟩
  have ren : en.natAbs ≤ 999 := by rw [← hen, Int.natAbs_tmod]; exact Nat.le_of_lt_succ (Nat.mod_lt _ (by decide))
  obtain ⟨bb, hbb⟩ : ∃ x, b % 4096 = x := ⟨_, rfl⟩
  have hbl : bb < 4096 := by rw [← hbb]; exact Nat.mod_lt _ (by decide)
  have hbm : (b : Int).tmod 4096 = (bb : Int) := by rw [← hbb]; rfl
  obtain ⟨z, hz⟩ : ∃ z, 32 + sn = z := ⟨_, rfl⟩
  have z1 : 32 ≤ z := by omega
  have z2 : z ≤ 8900 := by omega
  obtain ⟨⟨n', M, E⟩, q⟩ : ∃ d, bareD ⟨false, a, en⟩ = d := ⟨_, rfl⟩
  obtain rfl : n' = false := by
    rw [bareD_pos h0] at q
    injection q with q1
    exact q1.symm
  have ba : bitN a ≤ 64 := bitN_le.2 (by rw [show (2 : Nat) ^ 64 = 18446744073709551616 from rfl]; omega)
  have bp := bitN_pos h0
  have hX : qv ⟨false, M, E⟩ = qv ⟨false, a, en⟩ := by
    have := qv_bare (d := ⟨false, a, en⟩) (by dsimp only; omega) (by dsimp only; omega)
    rw [q] at this; exact this
  have htop : (topD ⟨false, M, E⟩).natAbs ≤ 1098 := by rw [top_bare h0 (by omega) (by omega) q]; omega
  obtain ⟨vx1, vx2⟩ := small_val h0 (show a < 18446744073709551616 by omega) ren
  have hL0 : Hid (∀ n1 m1 e1 n2 m2 e2, LogOk ⟨false, M, E⟩ ⟨n1, m1, e1⟩ ⟨n2, m2, e2⟩ z → -1102 ≤ qv ⟨n1, m1, e1⟩ ∧ qv ⟨n1, m1, e1⟩ ≤ 1102 ∧ -1102 ≤ qv ⟨n2, m2, e2⟩ ∧ qv ⟨n2, m2, e2⟩ ≤ 1102 ∧ qv ⟨n1, m1, e1⟩ ≤ qv ⟨n2, m2, e2⟩) := Lib.hid (fun n1 m1 e1 n2 m2 e2 o => log_mid o z1 htop (by rw [hX]; exact vx1) (by rw [hX]; exact vx2))
  have HL := Lib.hid (fun w v (h : RdN w v [a]) (hT : Tab w) => Log_v (s := z) (h.num1 haB) hT (by omega) (by omega) q (near_small h0 (by omega) (by omega) (by omega)) (by omega) (by omega))
  obtain ⟨X, hXX⟩ : ∃ X, qv ⟨false, a, en⟩ = X := ⟨_, rfl⟩
  rw [hXX] at hX
  have HX1 : Hid (∀ (w : World) v u n1 m1 e1 n2 m2 e2, LogOk ⟨false, M, E⟩ ⟨n1, m1, e1⟩ ⟨n2, m2, e2⟩ z → RdN w v (digs BB m1) → RdN w u (digs BB m2) → Tab w → Calls Tryd.prog 6 #[.agg #[.bool n1, v, .int .i64 e1, .bool n2, u, .int .i64 e2], .int .i64 (z : Int)] w (fun e w' => ∃ p1 k1 f1 p2 k2 f2 x y, e = .returned (.tuple #[.agg #[.bool p1, x, .int .i64 f1, .bool p2, y, .int .i64 f2], .int .i64 0]) ∧ (qv ⟨p1, k1, f1⟩ ≤ X ∧ X ≤ qv ⟨p2, k2, f2⟩ ∧ Sz k1 k2 f1 f2) ∧ RdN w' x (digs BB k1) ∧ RdN w' y (digs BB k2) ∧ Below w.heap.size w w')) := Lib.hid (fun w v u n1 m1 e1 n2 m2 e2 o h k hT => by
    obtain ⟨y1, y2, y3, y4, y5⟩ := hL0.out n1 m1 e1 n2 m2 e2 o
    obtain ⟨s1, s2, s3, s4, s5, s6⟩ := o.size
    refine (Exp_v (h.num (by omega)) (k.num (by omega)) hT o.bLo o.bHi s1 s2 (by omega) (by omega) (by omega) (by omega) (by grind) (by grind) y5 (units_wide z1 o.wide (by omega)) z1 z2).mono ?_
    rintro e w' ⟨p1, k1, f1, p2, k2, f2, x, y, rfl, ⟨x1, x2, -, -, zz⟩, hr⟩
    have ol := o.ln
    rw [hX] at ol
    exact ⟨p1, k1, f1, p2, k2, f2, x, y, rfl, ⟨exp_log_lo ol.lo x1, exp_log_hi ol.hi Rat.le_refl x2, zz⟩, hr⟩)
  have HC1 := Lib.hid (fun w v u p1 k1 p2 k2 f1 f2 (h : RdN w v (digs BB k1)) (k : RdN w u [a]) (hT : Tab w) (hv : qv ⟨p1, k1, f1⟩ ≤ X ∧ X ≤ qv ⟨p2, k2, f2⟩ ∧ Sz k1 k2 f1 f2) => Cmp_leq (n2 := false) (e2 := en) (h.num (Nat.le_trans hv.2.2.1 (by decide))) (k.num1 haB) hT (Nat.le_trans hv.2.2.1 (by decide)) (Nat.le_trans ba (by decide)) (by have := hv.2.2; unfold Sz at this; omega) (by have := hv.2.2; unfold Sz at this; omega) (by omega) (by omega) (show qv ⟨p1, k1, f1⟩ ≤ qv ⟨false, a, en⟩ by rw [hXX]; exact hv.1))
  have HC2 := Lib.hid (fun w v u p1 k1 p2 k2 f1 f2 (h : RdN w v (digs BB k2)) (k : RdN w u [a]) (hT : Tab w) (hv : qv ⟨p1, k1, f1⟩ ≤ X ∧ X ≤ qv ⟨p2, k2, f2⟩ ∧ Sz k1 k2 f1 f2) => Cmp_geq (n2 := false) (e2 := en) (h.num (Nat.le_trans hv.2.2.2.1 (by decide))) (k.num1 haB) hT (Nat.le_trans hv.2.2.2.1 (by decide)) (Nat.le_trans ba (by decide)) (by have := hv.2.2; unfold Sz at this; omega) (by have := hv.2.2; unfold Sz at this; omega) (by omega) (by omega) (show qv ⟨false, a, en⟩ ≤ qv ⟨p2, k2, f2⟩ by rw [hXX]; exact hv.2.1))
  have bbb : bitN bb ≤ 12 := bitN_le.2 hbl
  obtain ⟨lt1, lt2⟩ := little hbl
  have HAD := Lib.hid (fun w v u n1 m1 e1 n2 m2 e2 (o : LogOk ⟨false, M, E⟩ ⟨n1, m1, e1⟩ ⟨n2, m2, e2⟩ z) (h : RdN w v (digs BB m2)) (k : RdN w u [bb]) (hT : Tab w) => Add_v (k := 10000) (n2 := false) (e2 := -12) (h.num (Nat.le_trans o.size.2.1 (by decide))) (k.num1 (show bb < BB by omega)) hT o.mHi (show Mid 10000 ⟨false, bb, -12⟩ from ⟨by dsimp only; omega, by dsimp only; omega, by dsimp only; omega⟩) (by decide) (by decide))
  have HX2 : Hid (∀ (w : World) v n1 m1 e1 n2 m2 e2 n3 m3 e3, LogOk ⟨false, M, E⟩ ⟨n1, m1, e1⟩ ⟨n2, m2, e2⟩ z → (qv ⟨n3, m3, e3⟩ = qv ⟨n2, m2, e2⟩ + qv ⟨false, bb, -12⟩ ∧ Mid (10000 + 1) ⟨n3, m3, e3⟩ ∧ bareD ⟨n3, m3, e3⟩ = ⟨n3, m3, e3⟩) → RdN w v (digs BB m3) → Tab w → Calls Tryd.prog 6 #[.agg #[.bool n3, v, .int .i64 e3, .bool n3, v, .int .i64 e3], .int .i64 (z : Int)] w (fun e w' => ∃ p1 k1 f1 p2 k2 f2 x y, e = .returned (.tuple #[.agg #[.bool p1, x, .int .i64 f1, .bool p2, y, .int .i64 f2], .int .i64 0]) ∧ (k1 ≠ 0 ∧ X ≤ qv ⟨p2, k2, f2⟩ ∧ Sz k1 k2 f1 f2) ∧ RdN w' x (digs BB k1) ∧ RdN w' y (digs BB k2) ∧ Below w.heap.size w w')) := Lib.hid (fun w v n1 m1 e1 n2 m2 e2 n3 m3 e3 o hm h hT => by
    obtain ⟨y1, y2, y3, y4, y5⟩ := hL0.out n1 m1 e1 n2 m2 e2 o
    obtain ⟨g1, g2, g3⟩ := hm
    have c1 : qv ⟨n3, m3, e3⟩ < 4096 := by rw [g1]; grind
    have c2 : -4096 < qv ⟨n3, m3, e3⟩ := by rw [g1]; grind
    obtain ⟨s1, s2, s3⟩ := more_sizes g2 (by decide) c1 c2
    have hcf := ceil_floor ⟨n3, m3, e3⟩ z
    have h8 : (ceilU ⟨n3, m3, e3⟩ z - floorU ⟨n3, m3, e3⟩ z) * 8 ≤ ((2 ^ z : Nat) : Int) := by
      have h9 : 8 ≤ 2 ^ z := Nat.le_trans (show 8 ≤ 2 ^ 32 by decide) (Nat.pow_le_pow_right (by decide) z1)
      generalize 2 ^ z = x at *
      omega
    refine (Exp_v (h.num (by omega)) (h.num (by omega)) hT g3 g3 s1 s1 s2 s3 s2 s3 c2 c1 Rat.le_refl h8 z1 z2).mono ?_
    rintro e w' ⟨p1, k1, f1, p2, k2, f2, x, y, rfl, ⟨x1, x2, -, -, zz⟩, hr⟩
    have ol := o.ln
    rw [hX] at ol
    refine ⟨p1, k1, f1, p2, k2, f2, x, y, rfl, ⟨(pos_parts x1.1).2, exp_log_hi ol.hi (by rw [g1]; grind) x2, zz⟩, hr⟩)
  have HC3 := Lib.hid (fun w v u p1 k1 p2 k2 f1 f2 k3 p4 k4 f3 f4 (h : RdN w v (digs BB k1)) (k : RdN w u (digs BB k4)) (hT : Tab w) (hv : qv ⟨p1, k1, f1⟩ ≤ X ∧ X ≤ qv ⟨p2, k2, f2⟩ ∧ Sz k1 k2 f1 f2) (hy : k3 ≠ 0 ∧ X ≤ qv ⟨p4, k4, f4⟩ ∧ Sz k3 k4 f3 f4) => Cmp_leq (h.num (Nat.le_trans hv.2.2.1 (by decide))) (k.num (Nat.le_trans hy.2.2.2.1 (by decide))) hT (Nat.le_trans hv.2.2.1 (by decide)) (Nat.le_trans hy.2.2.2.1 (by decide)) (by have := hv.2.2; unfold Sz at this; omega) (by have := hv.2.2; unfold Sz at this; omega) (by have := hy.2.2; unfold Sz at this; omega) (by have := hy.2.2; unfold Sz at this; omega) (show qv ⟨p1, k1, f1⟩ ≤ qv ⟨p4, k4, f4⟩ from Rat.le_trans hv.1 hy.2.1))
  have HBT : Hid (∀ (w : World) v (k3 k4 : Nat) (f3 f4 : Int), (k3 ≠ 0 ∧ Sz k3 k4 f3 f4) → RdN w v (digs BB k3) → Calls Tryd.prog 9 #[v] w (fun e w' => ∃ x : Int, e = .returned (.int .i64 x) ∧ decide (0 < x) = true ∧ Below w.heap.size w w')) := Lib.hid (fun w v k3 k4 f3 f4 hk h => by
    refine (bits_n (h.num (Nat.le_trans hk.2.1 (by decide))) rfl).mono ?_
    rintro e w' ⟨rfl, hb⟩
    have := bitN_pos hk.1
    exact ⟨_, rfl, decide_eq_true (by omega), hb⟩)
  have d0 : ((a : Int) == 0) = false := beq_eq_false_iff_ne.2 (by omega)
  have d0' : (a == 0) = false := beq_eq_false_iff_ne.2 h0
  clear hX hXX vx1 vx2 htop bp ba q haB lt1 lt2 bbb hL0 z1 z2 hbb h0
  have we : IntKind.i64.wrap ei = ei := by rw [IntKind.wrap_i64]; omega
  have we2 : IntKind.i64.wrap en = en := by clear we; rw [IntKind.wrap_i64]; omega
  have ws : IntKind.i64.wrap (sn : Int) = (sn : Int) := by clear we we2; rw [IntKind.wrap_i64]; omega
  have ws2 : IntKind.i64.wrap (32 + (sn : Int)) = (z : Int) := by clear we we2 ws; rw [IntKind.wrap_i64]; omega
  have wb2 : IntKind.u64.wrap (bb : Int) = (bb : Int) := by clear we we2 ws ws2; rw [IntKind.wrap_u64]; omega
  clear h1 h2 h3 h4 ren hbl hz hBB
  go_enter Tryd.func3, Tryd.ntmps3
  go_upto_region 7 with
  (first
    | (go_at_call 4; (with_reducible refine (HAL.out _ hT).mono ?_); rintro e w1 ⟨rfl, hb1⟩; have B1 := hb1; have T1 := hT.below hb1; clear hT)
    | fail)
  have hA2 : Below w1.heap.size w1 ((w1.alloc (.cells #[.int .u64 (a : Int)] 22 (0, 0))).alloc (.cells #[.bool false, .slice (some ⟨w1.heap.size, 0, none⟩) 1 1, .int .i64 en] 27 (0, 0))) := below_2
  have La : RdN ((w1.alloc (.cells #[.int .u64 (a : Int)] 22 (0, 0))).alloc (.cells #[.bool false, .slice (some ⟨w1.heap.size, 0, none⟩) 1 1, .int .i64 en] 27 (0, 0))) (.slice (some ⟨w1.heap.size, 0, none⟩) 1 1) [a] := RdN.below (rd_one (heap_alloc_new _ _) trivial) (below_alloc _ _)
  have D2 : Blk ((w1.alloc (.cells #[.int .u64 (a : Int)] 22 (0, 0))).alloc (.cells #[.bool false, .slice (some ⟨w1.heap.size, 0, none⟩) 1 1, .int .i64 en] 27 (0, 0))) (w1.heap.size + 1) #[.bool false, .slice (some ⟨w1.heap.size, 0, none⟩) 1 1, .int .i64 en] := blk_a2
  have T2 := T1.below hA2
  have B2 := B1.trans (hA2.mono B1.size)
  clear hA2 T1 B1 hb1
  generalize (w1.alloc (.cells #[.int .u64 (a : Int)] 22 (0, 0))).alloc (.cells #[.bool false, .slice (some ⟨w1.heap.size, 0, none⟩) 1 1, .int .i64 en] 27 (0, 0)) = w2 at *
  obtain ⟨cD0, cD1, cD2, fD0, fD1, fD2, sD⟩ := D2.open3
  go_wp2_with
  (first
    | (go_at_call 5; (with_reducible refine (HL.out _ _ La T2).mono ?_); rintro e w3 ⟨n1, m1, e1, n2, m2, e2, vx, vy, rfl, ol, x3, y3, hb3⟩; have B3 := B2.trans (hb3.mono B2.size); have a3 := La.below hb3; have T3 := T2.below hb3; have D3 := D2.below hb3; clear La T2 D2; obtain ⟨cD0_3, cD1_3, cD2_3, fD0_3, fD1_3, fD2_3, sD_3⟩ := D3.open3; obtain ⟨ax3, kx3, rfl, -⟩ := x3.view; (try simp only [List.length_nil] at x3); obtain ⟨ay3, ky3, rfl, -⟩ := y3.view; (try simp only [List.length_nil] at y3); have ol := Lib.hid ol)
    | (go_at_call 6; (with_reducible refine (HX1.out _ _ _ n1 m1 e1 n2 m2 e2 ol.out.1 (x3.below (below_alloc _ _)) (y3.below (below_alloc _ _)) (T3.below (below_alloc _ _))).mono ?_); rintro e w4 ⟨p1, k1, f1, p2, k2, f2, vr, vs, rfl, hv, r4, s4, hb4⟩; have hb4' := (below_a hb4); have B4 := B3.trans (hb4'.mono B3.size); have a4 := a3.below hb4'; have T4 := T3.below hb4'; have D4 := D3.below hb4'; have x4 := x3.below hb4'; have y4 := y3.below hb4'; clear a3 T3 D3 x3 y3; have I4 := blk_new.below hb4; clear cD0_3 cD1_3 cD2_3 fD0_3 fD1_3 fD2_3 sD_3; obtain ⟨cD0_4, cD1_4, cD2_4, fD0_4, fD1_4, fD2_4, sD_4⟩ := D4.open3; obtain ⟨cI0_4, cI1_4, cI2_4, cI3_4, cI4_4, cI5_4, fI0_4, fI1_4, fI2_4, fI3_4, fI4_4, fI5_4, sI_4⟩ := I4.open6; obtain ⟨ar4, kr4, rfl, -⟩ := r4.view; (try simp only [List.length_nil] at r4); obtain ⟨as4, ks4, rfl, -⟩ := s4.view; (try simp only [List.length_nil] at s4); have hv := Lib.hid hv)
    | (go_at_call 7; (with_reducible refine (HC1.out _ _ _ p1 k1 p2 k2 f1 f2 (r4.below (below_alloc _ _)) (a4.below (below_alloc _ _)) (T4.below (below_alloc _ _)) hv.out).mono ?_); rintro e w5 ⟨c1, rfl, dc1, dd1, hb5⟩; have hb5' := (below_a hb5); have B5 := B4.trans (hb5'.mono B4.size); have a5 := a4.below hb5'; have T5 := T4.below hb5'; have D5 := D4.below hb5'; have x5 := x4.below hb5'; have y5 := y4.below hb5'; have I5 := I4.below hb5'; have r5 := r4.below hb5'; have s5 := s4.below hb5'; clear a4 T4 D4 x4 y4 I4 r4 s4; have J5 := blk_new.below hb5; clear cD0_4 cD1_4 cD2_4 fD0_4 fD1_4 fD2_4 sD_4; obtain ⟨cD0_5, cD1_5, cD2_5, fD0_5, fD1_5, fD2_5, sD_5⟩ := D5.open3; clear cI0_4 cI1_4 cI2_4 cI3_4 cI4_4 cI5_4 fI0_4 fI1_4 fI2_4 fI3_4 fI4_4 fI5_4 sI_4; obtain ⟨cI0_5, cI1_5, cI2_5, cI3_5, cI4_5, cI5_5, fI0_5, fI1_5, fI2_5, fI3_5, fI4_5, fI5_5, sI_5⟩ := I5.open6; obtain ⟨cJ0_5, cJ1_5, cJ2_5, cJ3_5, cJ4_5, cJ5_5, fJ0_5, fJ1_5, fJ2_5, fJ3_5, fJ4_5, fJ5_5, sJ_5⟩ := J5.open6)
    | (go_at_call 7; (with_reducible refine (HC2.out _ _ _ p1 k1 p2 k2 f1 f2 s5 a5 T5 hv.out).mono ?_); rintro e w6 ⟨c2, rfl, dc2, dd2, hb6⟩; have B6 := B5.trans (hb6.mono B5.size); have a6 := a5.below hb6; have T6 := T5.below hb6; have D6 := D5.below hb6; have x6 := x5.below hb6; have y6 := y5.below hb6; have I6 := I5.below hb6; have r6 := r5.below hb6; have s6 := s5.below hb6; have J6 := J5.below hb6; clear a5 T5 D5 x5 y5 I5 r5 s5 J5; clear cD0_5 cD1_5 cD2_5 fD0_5 fD1_5 fD2_5 sD_5; obtain ⟨cD0_6, cD1_6, cD2_6, fD0_6, fD1_6, fD2_6, sD_6⟩ := D6.open3; clear cI0_5 cI1_5 cI2_5 cI3_5 cI4_5 cI5_5 fI0_5 fI1_5 fI2_5 fI3_5 fI4_5 fI5_5 sI_5; obtain ⟨cI0_6, cI1_6, cI2_6, cI3_6, cI4_6, cI5_6, fI0_6, fI1_6, fI2_6, fI3_6, fI4_6, fI5_6, sI_6⟩ := I6.open6; clear cJ0_5 cJ1_5 cJ2_5 cJ3_5 cJ4_5 cJ5_5 fJ0_5 fJ1_5 fJ2_5 fJ3_5 fJ4_5 fJ5_5 sJ_5; obtain ⟨cJ0_6, cJ1_6, cJ2_6, cJ3_6, cJ4_6, cJ5_6, fJ0_6, fJ1_6, fJ2_6, fJ3_6, fJ4_6, fJ5_6, sJ_6⟩ := J6.open6)
    | (go_at_call 8; (with_reducible refine (HAD.out _ _ _ n1 m1 e1 n2 m2 e2 ol.out.1 (y6.below (below_alloc _ _)) ?_ (T6.below (below_alloc _ _))).mono ?_); (exact rd_one (heap_alloc_new _ _) trivial); rintro e w7 ⟨n3, m3, e3, vm, rfl, hm, m7, hb7⟩; have hb7' := (below_a hb7); have B7 := B6.trans (hb7'.mono B6.size); have a7 := a6.below hb7'; have T7 := T6.below hb7'; have D7 := D6.below hb7'; have x7 := x6.below hb7'; have y7 := y6.below hb7'; have I7 := I6.below hb7'; have r7 := r6.below hb7'; have s7 := s6.below hb7'; have J7 := J6.below hb7'; clear a6 T6 D6 x6 y6 I6 r6 s6 J6; clear cD0_6 cD1_6 cD2_6 fD0_6 fD1_6 fD2_6 sD_6; obtain ⟨cD0_7, cD1_7, cD2_7, fD0_7, fD1_7, fD2_7, sD_7⟩ := D7.open3; clear cI0_6 cI1_6 cI2_6 cI3_6 cI4_6 cI5_6 fI0_6 fI1_6 fI2_6 fI3_6 fI4_6 fI5_6 sI_6; obtain ⟨cI0_7, cI1_7, cI2_7, cI3_7, cI4_7, cI5_7, fI0_7, fI1_7, fI2_7, fI3_7, fI4_7, fI5_7, sI_7⟩ := I7.open6; clear cJ0_6 cJ1_6 cJ2_6 cJ3_6 cJ4_6 cJ5_6 fJ0_6 fJ1_6 fJ2_6 fJ3_6 fJ4_6 fJ5_6 sJ_6; obtain ⟨cJ0_7, cJ1_7, cJ2_7, cJ3_7, cJ4_7, cJ5_7, fJ0_7, fJ1_7, fJ2_7, fJ3_7, fJ4_7, fJ5_7, sJ_7⟩ := J7.open6; obtain ⟨am7, km7, rfl, -⟩ := m7.view; (try simp only [List.length_nil] at m7); have hm := Lib.hid hm)
    | (go_at_call 6; (with_reducible refine (HX2.out _ _ n1 m1 e1 n2 m2 e2 n3 m3 e3 ol.out.1 hm.out (m7.below (below_alloc _ _)) (T7.below (below_alloc _ _))).mono ?_); rintro e w8 ⟨p3, k3, f3, p4, k4, f4, vu, vg, rfl, hy, u8, g8, hb8⟩; have hb8' := (below_a hb8); have B8 := B7.trans (hb8'.mono B7.size); have a8 := a7.below hb8'; have T8 := T7.below hb8'; have D8 := D7.below hb8'; have x8 := x7.below hb8'; have y8 := y7.below hb8'; have I8 := I7.below hb8'; have r8 := r7.below hb8'; have s8 := s7.below hb8'; have J8 := J7.below hb8'; have m8 := m7.below hb8'; clear a7 T7 D7 x7 y7 I7 r7 s7 J7 m7; have M8 := blk_new.below hb8; clear cD0_7 cD1_7 cD2_7 fD0_7 fD1_7 fD2_7 sD_7; obtain ⟨cD0_8, cD1_8, cD2_8, fD0_8, fD1_8, fD2_8, sD_8⟩ := D8.open3; clear cI0_7 cI1_7 cI2_7 cI3_7 cI4_7 cI5_7 fI0_7 fI1_7 fI2_7 fI3_7 fI4_7 fI5_7 sI_7; obtain ⟨cI0_8, cI1_8, cI2_8, cI3_8, cI4_8, cI5_8, fI0_8, fI1_8, fI2_8, fI3_8, fI4_8, fI5_8, sI_8⟩ := I8.open6; clear cJ0_7 cJ1_7 cJ2_7 cJ3_7 cJ4_7 cJ5_7 fJ0_7 fJ1_7 fJ2_7 fJ3_7 fJ4_7 fJ5_7 sJ_7; obtain ⟨cJ0_8, cJ1_8, cJ2_8, cJ3_8, cJ4_8, cJ5_8, fJ0_8, fJ1_8, fJ2_8, fJ3_8, fJ4_8, fJ5_8, sJ_8⟩ := J8.open6; obtain ⟨cM0_8, cM1_8, cM2_8, fM0_8, fM1_8, fM2_8, sM_8⟩ := M8.open3; obtain ⟨au8, ku8, rfl, -⟩ := u8.view; (try simp only [List.length_nil] at u8); obtain ⟨ag8, kg8, rfl, -⟩ := g8.view; (try simp only [List.length_nil] at g8); have hy := Lib.hid hy)
    | (go_at_call 7; (with_reducible refine (HC3.out _ _ _ p1 k1 p2 k2 f1 f2 k3 p4 k4 f3 f4 (r8.below (below_alloc _ _)) (g8.below (below_alloc _ _)) (T8.below (below_alloc _ _)) hv.out hy.out).mono ?_); rintro e w9 ⟨c3, rfl, dc3, dd3, hb9⟩; have hb9' := (below_a hb9); have B9 := B8.trans (hb9'.mono B8.size); have a9 := a8.below hb9'; have T9 := T8.below hb9'; have D9 := D8.below hb9'; have x9 := x8.below hb9'; have y9 := y8.below hb9'; have I9 := I8.below hb9'; have r9 := r8.below hb9'; have s9 := s8.below hb9'; have J9 := J8.below hb9'; have m9 := m8.below hb9'; have M9 := M8.below hb9'; have u9 := u8.below hb9'; have g9 := g8.below hb9'; clear a8 T8 D8 x8 y8 I8 r8 s8 J8 m8 M8 u8 g8; have K9 := blk_new.below hb9; clear cD0_8 cD1_8 cD2_8 fD0_8 fD1_8 fD2_8 sD_8; obtain ⟨cD0_9, cD1_9, cD2_9, fD0_9, fD1_9, fD2_9, sD_9⟩ := D9.open3; clear cI0_8 cI1_8 cI2_8 cI3_8 cI4_8 cI5_8 fI0_8 fI1_8 fI2_8 fI3_8 fI4_8 fI5_8 sI_8; obtain ⟨cI0_9, cI1_9, cI2_9, cI3_9, cI4_9, cI5_9, fI0_9, fI1_9, fI2_9, fI3_9, fI4_9, fI5_9, sI_9⟩ := I9.open6; clear cJ0_8 cJ1_8 cJ2_8 cJ3_8 cJ4_8 cJ5_8 fJ0_8 fJ1_8 fJ2_8 fJ3_8 fJ4_8 fJ5_8 sJ_8; obtain ⟨cJ0_9, cJ1_9, cJ2_9, cJ3_9, cJ4_9, cJ5_9, fJ0_9, fJ1_9, fJ2_9, fJ3_9, fJ4_9, fJ5_9, sJ_9⟩ := J9.open6; clear cM0_8 cM1_8 cM2_8 fM0_8 fM1_8 fM2_8 sM_8; obtain ⟨cM0_9, cM1_9, cM2_9, fM0_9, fM1_9, fM2_9, sM_9⟩ := M9.open3; obtain ⟨cK0_9, cK1_9, cK2_9, cK3_9, cK4_9, cK5_9, fK0_9, fK1_9, fK2_9, fK3_9, fK4_9, fK5_9, sK_9⟩ := K9.open6)
    | (go_at_call 9; (with_reducible refine (HBT.out _ _ k3 k4 f3 f4 ⟨hy.out.1, hy.out.2.2⟩ u9).mono ?_); rintro e w10 ⟨bx, rfl, db, hb10⟩; have B10 := B9.trans (hb10.mono B9.size); have a10 := a9.below hb10; have T10 := T9.below hb10; have D10 := D9.below hb10; have x10 := x9.below hb10; have y10 := y9.below hb10; have I10 := I9.below hb10; have r10 := r9.below hb10; have s10 := s9.below hb10; have J10 := J9.below hb10; have m10 := m9.below hb10; have M10 := M9.below hb10; have u10 := u9.below hb10; have g10 := g9.below hb10; have K10 := K9.below hb10; clear a9 T9 D9 x9 y9 I9 r9 s9 J9 m9 M9 u9 g9 K9; clear cD0_9 cD1_9 cD2_9 fD0_9 fD1_9 fD2_9 sD_9; obtain ⟨cD0_10, cD1_10, cD2_10, fD0_10, fD1_10, fD2_10, sD_10⟩ := D10.open3; clear cI0_9 cI1_9 cI2_9 cI3_9 cI4_9 cI5_9 fI0_9 fI1_9 fI2_9 fI3_9 fI4_9 fI5_9 sI_9; obtain ⟨cI0_10, cI1_10, cI2_10, cI3_10, cI4_10, cI5_10, fI0_10, fI1_10, fI2_10, fI3_10, fI4_10, fI5_10, sI_10⟩ := I10.open6; clear cJ0_9 cJ1_9 cJ2_9 cJ3_9 cJ4_9 cJ5_9 fJ0_9 fJ1_9 fJ2_9 fJ3_9 fJ4_9 fJ5_9 sJ_9; obtain ⟨cJ0_10, cJ1_10, cJ2_10, cJ3_10, cJ4_10, cJ5_10, fJ0_10, fJ1_10, fJ2_10, fJ3_10, fJ4_10, fJ5_10, sJ_10⟩ := J10.open6; clear cM0_9 cM1_9 cM2_9 fM0_9 fM1_9 fM2_9 sM_9; obtain ⟨cM0_10, cM1_10, cM2_10, fM0_10, fM1_10, fM2_10, sM_10⟩ := M10.open3; clear cK0_9 cK1_9 cK2_9 cK3_9 cK4_9 cK5_9 fK0_9 fK1_9 fK2_9 fK3_9 fK4_9 fK5_9 sK_9; obtain ⟨cK0_10, cK1_10, cK2_10, cK3_10, cK4_10, cK5_10, fK0_10, fK1_10, fK2_10, fK3_10, fK4_10, fK5_10, sK_10⟩ := K10.open6)
    | fail)
  all_goals
    go_ret
    exact ⟨rfl, by assumption⟩
end Go.Proofs.YthmaoohjhnpamaaDoor.PEBack
