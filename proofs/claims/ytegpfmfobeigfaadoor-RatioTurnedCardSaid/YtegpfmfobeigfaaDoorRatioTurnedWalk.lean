/- RatioTurned returns true and leaves what was there: the walk. Conditions: math/bits' table stands in its variable. -/
import Derived.Test.YtegpfmfobeigfaaDoorLaw10
import Derived.Test.YtegpfmfobeigfaaDoorRatTurn
import Derived.Test.YtegpfmfobeigfaaDoorRefA
namespace Go.Proofs.YtegpfmfobeigfaaDoor.PRTurn
set_option maxRecDepth 100000
open Go.RowKit Go.Proofs.YtegpfmfobeigfaaDoor

/-- What a limb and a small exponent are, bared. -/
theorem small_bare {m : Nat} {e : Int} (h0 : m ≠ 0) (hm : bitN m ≤ 64) (h1 : -128 ≤ e) (h2 : e ≤ 127) : ∃ M E, bareD ⟨false, m, e⟩ = ⟨false, M, E⟩ ∧ M % 2 = 1 ∧ bitN M ≤ 64 ∧ -128 ≤ E ∧ E ≤ 191 := by
  obtain ⟨k, hk⟩ := low2_eq h0
  have hl := low2_lt h0
  refine ⟨m / 2 ^ low2 m, cutE e + (low2 m : Nat), bareD_pos h0, ?_, Nat.le_trans (bitN_mono (Nat.div_le_self _ _)) hm, ?_⟩
  · rw [odd_eq hk]; omega
  · have : cutE e = e := by unfold cutE; omega
    rw [this]; omega
theorem cmpD_pos {A B : Nat} {Ea Eb c : Int} (hA : A ≠ 0) (hB : B ≠ 0) (h : cmpM ⟨false, A, Ea⟩ ⟨false, B, Eb⟩ = c) : cmpD ⟨false, A, Ea⟩ ⟨false, B, Eb⟩ = c := by
  have e1 : signD ⟨false, A, Ea⟩ = 1 := by unfold signD; rw [if_neg (show (⟨false, A, Ea⟩ : Dn).m ≠ 0 from hA)]; rfl
  have e2 : signD ⟨false, B, Eb⟩ = 1 := by unfold signD; rw [if_neg (show (⟨false, B, Eb⟩ : Dn).m ≠ 0 from hB)]; rfl
  unfold cmpD
  rw [e1, e2, if_neg (by decide), h, Int.one_mul]

theorem rd4a {w : World} {m : Nat} {T : TypeId} {fz : Nat × Nat} {o2 o3 o4 : Obj} : RdN ((((w.alloc (.cells #[.int .u64 (m : Int)] T fz)).alloc o2).alloc o3).alloc o4) (.slice (some ⟨w.heap.size, 0, none⟩) 1 1) [m] :=
  (((show RdN _ _ [m] from rd_one (heap_alloc_new _ _) trivial).below (below_alloc _ _)).below (below_alloc _ _)).below (below_alloc _ _)
theorem rd4b {w : World} {m : Nat} {T : TypeId} {fz : Nat × Nat} {o1 o3 o4 : Obj} : RdN ((((w.alloc o1).alloc (.cells #[.int .u64 (m : Int)] T fz)).alloc o3).alloc o4) (.slice (some ⟨w.heap.size + 1, 0, none⟩) 1 1) [m] :=
  ((show RdN _ _ [m] from rd_one (heap_new2 _ _ _) trivial).below (below_alloc _ _)).below (below_alloc _ _)
theorem blk4c {w : World} {c : Array Value} {T : TypeId} {o1 o2 o4 : Obj} : Blk ((((w.alloc o1).alloc o2).alloc (.cells c T (0, 0))).alloc o4) (w.heap.size + 1 + 1) c :=
  Blk.below ⟨by simp, T, heap_new3 _ _ _ _⟩ (below_alloc _ _)
theorem blk4d {w : World} {c : Array Value} {T : TypeId} {o1 o2 o3 : Obj} : Blk ((((w.alloc o1).alloc o2).alloc o3).alloc (.cells c T (0, 0))) (w.heap.size + 1 + 1 + 1) c := by
  have := heap_new3 (w.alloc o1) o2 o3 (.cells c T (0, 0))
  rw [show (w.alloc o1).heap.size = w.heap.size + 1 by simp] at this
  exact ⟨by simp, T, this⟩
theorem below4 {w : World} {o1 o2 o3 o4 : Obj} : Below w.heap.size w ((((w.alloc o1).alloc o2).alloc o3).alloc o4) := below_a (below_a (below_a (below_alloc _ _)))

set_option maxRecDepth 100000 in
set_option maxHeartbeats 1000000 in
theorem walk (a0 a1 a2 a3 a4 a5 : Int) (w : World) (w0 : (Lit.int .u64 a0).wf = true) (w1 : (Lit.int .u64 a1).wf = true) (w2 : (Lit.int .u8 a2).wf = true) (w3 : (Lit.int .u8 a3).wf = true) (w4 : (Lit.int .i8 a4).wf = true) (w5 : (Lit.int .i8 a5).wf = true) (hT : Tab w) :
    Calls Tryd.prog 5 #[.int .u64 a0, .int .u64 a1, .int .u8 a2, .int .u8 a3, .int .i8 a4, .int .i8 a5] w fun e w' => e = .returned (.bool true) ∧ Below w.heap.size w w' := by
  obtain ⟨m, rfl, hm⟩ := u64_nat w0
  obtain ⟨n, rfl, hn⟩ := u64_nat w1
  have h2 : 0 ≤ a2 ∧ a2 ≤ 255 := by simpa [Lit.wf, IntKind.min, IntKind.max, IntKind.bits, IntKind.signed] using w2
  have h3 : 0 ≤ a3 ∧ a3 ≤ 255 := by simpa [Lit.wf, IntKind.min, IntKind.max, IntKind.bits, IntKind.signed] using w3
  have h4 : -128 ≤ a4 ∧ a4 ≤ 127 := by simpa [Lit.wf, IntKind.min, IntKind.max, IntKind.bits, IntKind.signed] using w4
  have h5 : -128 ≤ a5 ∧ a5 ≤ 127 := by simpa [Lit.wf, IntKind.min, IntKind.max, IntKind.bits, IntKind.signed] using w5
  obtain ⟨i, rfl⟩ := Int.eq_ofNat_of_zero_le h2.1
  obtain ⟨k, rfl⟩ := Int.eq_ofNat_of_zero_le h3.1
  clear w0 w1 w2 w3 w4 w5
  by_cases hm0 : m = 0 ∨ n = 0
  · by_cases h0 : m = 0
    · subst h0
      go_enter Tryd.func5, Tryd.ntmps5
      go_wp2_with (go_at_call 7; (with_reducible refine (alive10_any hT).mono ?_); rintro e wa ⟨rfl, hba⟩)
      all_goals
        go_ret
        exact ⟨rfl, hba⟩
    · obtain rfl : n = 0 := by omega
      have hmb : ((m : Int) == 0) = false := beq_false_of_ne (by omega)
      have hmi : (m : Int) ≠ 0 := by omega
      go_enter Tryd.func5, Tryd.ntmps5
      go_wp2_with (go_at_call 7; (with_reducible refine (alive10_any hT).mono ?_); rintro e wa ⟨rfl, hba⟩)
      all_goals
        go_ret
        exact ⟨rfl, hba⟩
  · have hmb : ((m : Int) == 0) = false := beq_false_of_ne (by omega)
    have hnb : ((n : Int) == 0) = false := beq_false_of_ne (by omega)
    obtain ⟨p, hp, hp8⟩ : ∃ p : Nat, (i : Int) % 12 = p ∧ p < 12 := ⟨i % 12, by omega, by omega⟩
    obtain ⟨q, hq, hq8⟩ : ∃ q : Nat, (k : Int) % 12 = q ∧ q < 12 := ⟨k % 12, by omega, by omega⟩
    obtain ⟨p1, hp', hp1, hp12⟩ : ∃ n : Nat, (1 : Int) + (p : Int) = (n : Int) ∧ 1 ≤ n ∧ n ≤ 12 := ⟨1 + p, by omega, by omega, by omega⟩
    obtain ⟨q1, hq', hq1, hq12⟩ : ∃ n : Nat, (1 : Int) + (q : Int) = (n : Int) ∧ 1 ≤ n ∧ n ≤ 12 := ⟨1 + q, by omega, by omega, by omega⟩
    have n1 : m ≠ 0 := by omega
    have n2 : n ≠ 0 := by omega
    have bm : bitN m ≤ 64 := bitN_le.2 (by rw [← BB_pow]; exact hm)
    have bn : bitN n ≤ 64 := bitN_le.2 (by rw [← BB_pow]; exact hn)
    obtain ⟨M, Ex, ex, oM, sM, rx⟩ := small_bare n1 bm h4.1 h4.2
    obtain ⟨N, Ey, ey, oN, sN, ry⟩ := small_bare n2 bn h5.1 h5.2
    have mp : bitN M * p1 ≤ 60000 := Nat.le_trans (Nat.mul_le_mul sM hp12) (by decide)
    have nq : bitN N * q1 ≤ 60000 := Nat.le_trans (Nat.mul_le_mul sN hq12) (by decide)
    have ep : Ex.natAbs * p1 ≤ 60000 := Nat.le_trans (Nat.mul_le_mul (show Ex.natAbs ≤ 300 by omega) hp12) (by decide)
    have eq : Ey.natAbs * q1 ≤ 60000 := Nat.le_trans (Nat.mul_le_mul (show Ey.natAbs ≤ 300 by omega) hq12) (by decide)
    have fx : fitsE Ex = true := by unfold fitsE; simp; omega
    have fy : fitsE Ey = true := by unfold fitsE; simp; omega
    obtain ⟨P, hP⟩ : ∃ P, M ^ p1 = P := ⟨_, rfl⟩
    obtain ⟨Q, hQ⟩ : ∃ Q, N ^ q1 = Q := ⟨_, rfl⟩
    obtain ⟨Ep, hEp⟩ : ∃ E, Ex * (p1 : Int) = E := ⟨_, rfl⟩
    obtain ⟨Eq, hEq⟩ : ∃ E, Ey * (q1 : Int) = E := ⟨_, rfl⟩
    obtain ⟨a, ha⟩ : ∃ a, cmpM ⟨false, P, Ep⟩ ⟨false, Q, Eq⟩ = a := ⟨_, rfl⟩
    obtain ⟨c, hc⟩ : ∃ c, cmpM ⟨false, 1, 0⟩ ⟨false, P * Q, Ep + Eq⟩ = c := ⟨_, rfl⟩
    obtain ⟨u, hu⟩ : ∃ u, cmpM ⟨false, P, Ep⟩ ⟨false, 1, 0⟩ = u := ⟨_, rfl⟩
    have hb : cmpM ⟨false, Q, Eq⟩ ⟨false, P, Ep⟩ = -a := by rw [← ha]; exact cmpM_swap _ _
    have hd : cmpM ⟨false, 1, 0⟩ ⟨false, Q * P, Eq + Ep⟩ = c := by rw [← hc, Nat.mul_comm Q, Int.add_comm Eq]
    have hv : cmpM ⟨false, 1, 0⟩ ⟨false, P, Ep⟩ = -u := by rw [← hu]; exact cmpM_swap _ _
    have hxu : cmpM ⟨false, M, Ex⟩ ⟨false, 1, 0⟩ = u := by rw [← hu, ← hP, ← hEp]; exact (cmpM_pow_one hp1).symm
    have ra : -1 ≤ a ∧ a ≤ 1 := by rw [← ha]; exact cmpN_range _ _
    have ru : -1 ≤ u ∧ u ≤ 1 := by rw [← hu]; exact cmpN_range _ _
    have l1 : (-9223372036854775808 : Int) ≤ a4 := by omega
    have l2 : a4 ≤ 9223372036854775807 := by omega
    have l3 : (-9223372036854775808 : Int) ≤ a5 := by omega
    have l4 : a5 ≤ 9223372036854775807 := by omega
    have l5 : (-9223372036854775808 : Int) ≤ 0 := by decide
    have l6 : (0 : Int) ≤ 9223372036854775807 := by decide
    have pM : p1 ≤ 9223372036854775807 := by omega
    have qM : q1 ≤ 9223372036854775807 := by omega
    have np : ((p1 : Int)).natAbs = p1 := Int.natAbs_natCast _
    have nnp : (-(p1 : Int)).natAbs = p1 := by rw [Int.natAbs_neg]; exact np
    have nq' : ((q1 : Int)).natAbs = q1 := Int.natAbs_natCast _
    have nnq : (-(q1 : Int)).natAbs = q1 := by rw [Int.natAbs_neg]; exact nq'
    have f0 : fitsE 0 = true := by decide
    have C1 := Lib.hid (fun w v u (h : Num w v m) (k : Num w u n) (hT : Tab w) => rCmp_ok (m := (p1 : Int)) h k hT l1 l2 l3 l4 ex ey fx fy n1 n2 oM oN np pM hq1 qM mp ep nq eq hP hQ hEp hEq (fun _ => ha) (fun h => absurd h (by omega)))
    have C2 := Lib.hid (fun w v u (h : Num w v n) (k : Num w u m) (hT : Tab w) => rCmp_ok (m := (q1 : Int)) h k hT l3 l4 l1 l2 ey ex fy fx n2 n1 oN oM nq' qM hp1 pM nq eq mp ep hQ hP hEq hEp (fun _ => hb) (fun h => absurd h (by omega)))
    have C3 := Lib.hid (fun w v u (h : Num w v m) (k : Num w u n) (hT : Tab w) => rCmp_ok (m := -(p1 : Int)) h k hT l1 l2 l3 l4 ex ey fx fy n1 n2 oM oN nnp pM hq1 qM mp ep nq eq hP hQ hEp hEq (fun h => absurd h (by omega)) (fun _ => hc))
    have C4 := Lib.hid (fun w v u (h : Num w v n) (k : Num w u m) (hT : Tab w) => rCmp_ok (m := -(q1 : Int)) h k hT l3 l4 l1 l2 ey ex fy fx n2 n1 oN oM nnq qM hp1 pM nq eq mp ep hQ hP hEq hEp (fun h => absurd h (by omega)) (fun _ => hd))
    have C5 := Lib.hid (fun w v u' (h : Num w v m) (k : Num w u' 1) (hT : Tab w) => show Calls Tryd.prog 17 #[.agg #[.bool false, v, .int .i64 a4], .int .i64 p1, .agg #[.bool false, u', .int .i64 0], .int .i64 1] w _ from rCmp_ok (m := (p1 : Int)) (k := 1) (Q := 1) (Eq := 0) (c := u) h k hT l1 l2 l5 l6 ex bare_10 fx f0 n1 (by decide) oM rfl np pM (Nat.le_refl _) (by decide) mp ep (by decide) (by decide) hP rfl hEp rfl (fun _ => hu) (fun h => absurd h (by omega)))
    have C6 := Lib.hid (fun w v u' (h : Num w v m) (k : Num w u' 1) (hT : Tab w) => show Calls Tryd.prog 17 #[.agg #[.bool false, v, .int .i64 a4], .int .i64 (-(p1 : Int)), .agg #[.bool false, u', .int .i64 0], .int .i64 1] w _ from rCmp_ok (m := -(p1 : Int)) (k := 1) (Q := 1) (Eq := 0) (c := -u) h k hT l1 l2 l5 l6 ex bare_10 fx f0 n1 (by decide) oM rfl nnp pM (Nat.le_refl _) (by decide) mp ep (by decide) (by decide) hP rfl hEp rfl (fun h => absurd h (by omega)) (fun _ => by rw [Nat.mul_one, Int.add_zero]; exact hv))
    have C7 := Lib.hid (fun w v u' (h : Num w v m) (k : Num w u' 1) (hT : Tab w) => Cmp_n (neg := false) (neg2 := false) (c := u) h k hT l1 l2 l5 l6 ex bare_10 (by omega) (by rw [bitN_one]; omega) (cmpD_pos (by omega) (by decide) hxu))
    have O1 := Lib.hid (fun w (hT : Tab w) => show Calls Tryd.prog 21 #[.int .i64 1] w _ from Of_n (n := 1) (by decide) hT bare_10)
    have wp : IntKind.i64.wrap (-(p1 : Int)) = -(p1 : Int) := by rw [IntKind.wrap_i64]; omega
    have wq : IntKind.i64.wrap (-(q1 : Int)) = -(q1 : Int) := by rw [IntKind.wrap_i64]; omega
    have wa1 : IntKind.i64.wrap (-(-a)) = a := by rw [IntKind.wrap_i64]; omega
    have wu1 : IntKind.i64.wrap (-(-u)) = u := by rw [IntKind.wrap_i64]; omega
    have s1 : bitN 1 ≤ 2560000 := by rw [bitN_one]; omega
    clear hP hQ hEp hEq ha hb hc hd hu hv hxu mp nq ep eq np nnp nq' nnq
    go_enter Tryd.func5, Tryd.ntmps5
    go_wp2_with
    (first
      | (go_at_call 7; (with_reducible refine (alive10_any hT).mono ?_); rintro e w1 ⟨rfl, hb1⟩; have B1 := hb1; have T1 := hT.below hb1; clear hT)
      | (go_at_call 17; (with_reducible refine (C1.out _ _ _ ((rd4a).num1 hm) ((rd4b).num1 hn) (T1.below below4)).mono ?_); rintro e w2 ⟨rfl, hb2⟩; have B2 := (B1.trans (below4.mono B1.size)).trans (hb2.mono (B1.trans (below4.mono B1.size)).size); have T2 := ((T1.below below4)).below hb2; have x2 := ((rd4a)).below hb2; have y2 := ((rd4b)).below hb2; have P2 := ((blk4c)).below hb2; have Q2 := ((blk4d)).below hb2; obtain ⟨cP0_2, cP1_2, cP2_2, fP0_2, fP1_2, fP2_2, sP_2⟩ := P2.open3; obtain ⟨cQ0_2, cQ1_2, cQ2_2, fQ0_2, fQ1_2, fQ2_2, sQ_2⟩ := Q2.open3)
      | (go_at_call 17; (with_reducible refine (C2.out _ _ _ (y2.num1 hn) (x2.num1 hm) T2).mono ?_); rintro e w3 ⟨rfl, hb3⟩; have B3 := B2.trans (hb3.mono B2.size); have T3 := T2.below hb3; have x3 := x2.below hb3; have y3 := y2.below hb3; have P3 := P2.below hb3; have Q3 := Q2.below hb3; clear T2 x2 y2 P2 Q2; clear cP0_2 cP1_2 cP2_2 fP0_2 fP1_2 fP2_2 sP_2; obtain ⟨cP0_3, cP1_3, cP2_3, fP0_3, fP1_3, fP2_3, sP_3⟩ := P3.open3; clear cQ0_2 cQ1_2 cQ2_2 fQ0_2 fQ1_2 fQ2_2 sQ_2; obtain ⟨cQ0_3, cQ1_3, cQ2_3, fQ0_3, fQ1_3, fQ2_3, sQ_3⟩ := Q3.open3)
      | (go_at_call 17; (with_reducible refine (C3.out _ _ _ (x3.num1 hm) (y3.num1 hn) T3).mono ?_); rintro e w4 ⟨rfl, hb4⟩; have B4 := B3.trans (hb4.mono B3.size); have T4 := T3.below hb4; have x4 := x3.below hb4; have y4 := y3.below hb4; have P4 := P3.below hb4; have Q4 := Q3.below hb4; clear T3 x3 y3 P3 Q3; clear cP0_3 cP1_3 cP2_3 fP0_3 fP1_3 fP2_3 sP_3; obtain ⟨cP0_4, cP1_4, cP2_4, fP0_4, fP1_4, fP2_4, sP_4⟩ := P4.open3; clear cQ0_3 cQ1_3 cQ2_3 fQ0_3 fQ1_3 fQ2_3 sQ_3; obtain ⟨cQ0_4, cQ1_4, cQ2_4, fQ0_4, fQ1_4, fQ2_4, sQ_4⟩ := Q4.open3)
      | (go_at_call 17; (with_reducible refine (C4.out _ _ _ (y4.num1 hn) (x4.num1 hm) T4).mono ?_); rintro e w5 ⟨rfl, hb5⟩; have B5 := B4.trans (hb5.mono B4.size); have T5 := T4.below hb5; have x5 := x4.below hb5; have y5 := y4.below hb5; have P5 := P4.below hb5; have Q5 := Q4.below hb5; clear T4 x4 y4 P4 Q4; clear cP0_4 cP1_4 cP2_4 fP0_4 fP1_4 fP2_4 sP_4; obtain ⟨cP0_5, cP1_5, cP2_5, fP0_5, fP1_5, fP2_5, sP_5⟩ := P5.open3; clear cQ0_4 cQ1_4 cQ2_4 fQ0_4 fQ1_4 fQ2_4 sQ_4; obtain ⟨cQ0_5, cQ1_5, cQ2_5, fQ0_5, fQ1_5, fQ2_5, sQ_5⟩ := Q5.open3)
      | (go_at_call 21; (with_reducible refine (O1.out _ T5).mono ?_); rintro e w6 ⟨vo6, rfl, o6, hb6⟩; have B6 := B5.trans (hb6.mono B5.size); have T6 := T5.below hb6; have x6 := x5.below hb6; have y6 := y5.below hb6; have P6 := P5.below hb6; have Q6 := Q5.below hb6; clear T5 x5 y5 P5 Q5; clear cP0_5 cP1_5 cP2_5 fP0_5 fP1_5 fP2_5 sP_5; obtain ⟨cP0_6, cP1_6, cP2_6, fP0_6, fP1_6, fP2_6, sP_6⟩ := P6.open3; clear cQ0_5 cQ1_5 cQ2_5 fQ0_5 fQ1_5 fQ2_5 sQ_5; obtain ⟨cQ0_6, cQ1_6, cQ2_6, fQ0_6, fQ1_6, fQ2_6, sQ_6⟩ := Q6.open3; obtain ⟨uo6, rfl, o6⟩ := o6; obtain ⟨ao6, ko6, rfl, -⟩ := o6.view)
      | (go_at_call 17; (with_reducible refine (C5.out _ _ _ ((x6.below (below_alloc _ _)).num1 hm) ((o6.below (below_alloc _ _)).num s1) (T6.below (below_alloc _ _))).mono ?_); rintro e w7 ⟨rfl, hb7⟩; have hb7' := (below_a hb7); have B7 := B6.trans (hb7'.mono B6.size); have T7 := T6.below hb7'; have x7 := x6.below hb7'; have y7 := y6.below hb7'; have P7 := P6.below hb7'; have Q7 := Q6.below hb7'; have o7 := o6.below hb7'; clear T6 x6 y6 P6 Q6 o6; have R7 := blk_new.below hb7; clear cP0_6 cP1_6 cP2_6 fP0_6 fP1_6 fP2_6 sP_6; obtain ⟨cP0_7, cP1_7, cP2_7, fP0_7, fP1_7, fP2_7, sP_7⟩ := P7.open3; clear cQ0_6 cQ1_6 cQ2_6 fQ0_6 fQ1_6 fQ2_6 sQ_6; obtain ⟨cQ0_7, cQ1_7, cQ2_7, fQ0_7, fQ1_7, fQ2_7, sQ_7⟩ := Q7.open3; obtain ⟨cR0_7, cR1_7, cR2_7, fR0_7, fR1_7, fR2_7, sR_7⟩ := R7.open3)
      | (go_at_call 17; (with_reducible refine (C6.out _ _ _ (x7.num1 hm) (o7.num s1) T7).mono ?_); rintro e w8 ⟨rfl, hb8⟩; have B8 := B7.trans (hb8.mono B7.size); have T8 := T7.below hb8; have x8 := x7.below hb8; have y8 := y7.below hb8; have P8 := P7.below hb8; have Q8 := Q7.below hb8; have o8 := o7.below hb8; have R8 := R7.below hb8; clear T7 x7 y7 P7 Q7 o7 R7; clear cP0_7 cP1_7 cP2_7 fP0_7 fP1_7 fP2_7 sP_7; obtain ⟨cP0_8, cP1_8, cP2_8, fP0_8, fP1_8, fP2_8, sP_8⟩ := P8.open3; clear cQ0_7 cQ1_7 cQ2_7 fQ0_7 fQ1_7 fQ2_7 sQ_7; obtain ⟨cQ0_8, cQ1_8, cQ2_8, fQ0_8, fQ1_8, fQ2_8, sQ_8⟩ := Q8.open3; clear cR0_7 cR1_7 cR2_7 fR0_7 fR1_7 fR2_7 sR_7; obtain ⟨cR0_8, cR1_8, cR2_8, fR0_8, fR1_8, fR2_8, sR_8⟩ := R8.open3)
      | (go_at_call 22; (with_reducible refine (C7.out _ _ _ (x8.num1 hm) (o8.num s1) T8).mono ?_); rintro e w9 ⟨rfl, hb9⟩; have B9 := B8.trans (hb9.mono B8.size); have T9 := T8.below hb9; have x9 := x8.below hb9; have y9 := y8.below hb9; have P9 := P8.below hb9; have Q9 := Q8.below hb9; have o9 := o8.below hb9; have R9 := R8.below hb9; clear T8 x8 y8 P8 Q8 o8 R8; clear cP0_8 cP1_8 cP2_8 fP0_8 fP1_8 fP2_8 sP_8; obtain ⟨cP0_9, cP1_9, cP2_9, fP0_9, fP1_9, fP2_9, sP_9⟩ := P9.open3; clear cQ0_8 cQ1_8 cQ2_8 fQ0_8 fQ1_8 fQ2_8 sQ_8; obtain ⟨cQ0_9, cQ1_9, cQ2_9, fQ0_9, fQ1_9, fQ2_9, sQ_9⟩ := Q9.open3; clear cR0_8 cR1_8 cR2_8 fR0_8 fR1_8 fR2_8 sR_8; obtain ⟨cR0_9, cR1_9, cR2_9, fR0_9, fR1_9, fR2_9, sR_9⟩ := R9.open3)
      | fail)
    all_goals
      go_ret
      exact ⟨rfl, by assumption⟩
end Go.Proofs.YtegpfmfobeigfaaDoor.PRTurn
