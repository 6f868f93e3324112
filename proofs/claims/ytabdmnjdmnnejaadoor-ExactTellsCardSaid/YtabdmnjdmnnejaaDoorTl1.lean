/- planimeterref07.Limit, value, Middle and planimeterref06.Worth by their contracts: sizes as numbers. Conditions: none. -/
import Derived.Test.YtabdmnjdmnnejaaDoorRefDy6
import Derived.Test.YtabdmnjdmnnejaaDoorTelG
import Derived.Test.YtabdmnjdmnnejaaDoorDyA
namespace Go.Proofs.YtabdmnjdmnnejaaDoor
set_option maxRecDepth 100000
open Go.RowKit Go.ChangeShapes Go.WideShapes
set_option linter.unusedVariables false

theorem RLimit_n {w : World} :
    Calls Tryd.prog 40 #[] w (fun e w' => ∃ v, e = .returned (.agg #[.bool false, v, .int .i64 1024]) ∧ RdD w' v (digs DD 1) ∧ Below w.heap.size w w') := by
  have d1 : digs DD 1 = [1] := by rw [digs_pos DD_two (by omega)]; rfl
  rw [d1]
  go_enter Tryd.func40, Tryd.ntmps40
  go_wp2_with fail
  refine bodyPost_ret (v := .agg #[.bool false, .slice (some ⟨w.heap.size + 1, 0, none⟩) 1 1, .int .i64 1024]) ?_ rfl ?_
  · simp [results, Tryd.results40, go_sem]
  · exact ⟨_, rfl, rd_one (heap_new2 _ _ _) trivial, below_2⟩

set_option maxHeartbeats 1000000 in
theorem RWorth_n {w : World} {s B : Nat} {EB : Int} {n' : Bool} (hs : s ≤ 9218868437227405312) (e : bareD ⟨false, sigF s, unitE s⟩ = ⟨n', B, EB⟩) :
    Calls Tryd.prog 41 #[L64 s] w (fun e w' => ∃ v, e = .returned (.agg #[.bool n', v, .int .i64 EB]) ∧ RdD w' v (digs DD B) ∧ Below w.heap.size w w') := by
  have hu1 := unitE_ge s; have hu2 := unitE_le hs
  have hF := sigF_lt s
  have hb53 : bitN (sigF s) ≤ 53 := bitN_le.2 hF
  have hBB : BB = 18446744073709551616 := rfl
  have HO := Lib.hid (fun w v (h : RdN w v [sigF s]) => ROf_n (h.num1 (by omega)) (by omega) (by omega) (by omega) e)
  have P0 := blk_new (w := w) (T := 30) (c := #[.bool false, .slice none 0 0, .int .i64 0])
  have B0 := below_alloc w (.cells #[.bool false, .slice none 0 0, .int .i64 0] 30 (0, 0))
  obtain ⟨a, ha⟩ : ∃ a, s / 4503599627370496 = a := ⟨_, rfl⟩
  obtain ⟨f, hf⟩ : ∃ f, s % 4503599627370496 = f := ⟨_, rfl⟩
  have q1 : (s : Int).tdiv 4503599627370496 = (a : Int) := by rw [← ha]; rfl
  have q2 : (s : Int).tmod 4503599627370496 = (f : Int) := by rw [← hf]; rfl
  have q3 : (a : Int).tmod 2048 = (a : Int) := by rw [Int.tmod_eq_emod_of_nonneg (by omega)]; omega
  have w1 : IntKind.u64.wrap (a : Int) = (a : Int) := by rw [IntKind.wrap_u64]; omega
  have w2 : IntKind.i64.wrap (a : Int) = (a : Int) := by rw [IntKind.wrap_i64]; omega
  have w3 : IntKind.u64.wrap (f : Int) = (f : Int) := by rw [IntKind.wrap_u64]; omega
  have w5 : IntKind.i64.wrap ((a : Int) - 1075) = (a : Int) - 1075 := by rw [IntKind.wrap_i64]; omega
  have g1 : decide ((9223372036854775808 : Int) ≤ (s : Int)) = false := decide_eq_false (by omega)
  unfold sigF unitE at HO
  rw [ha, hf] at HO
  have z0 := Lib.hid ha; have z1 := Lib.hid hf
  by_cases h0 : a = 0
  · subst h0
    rw [if_pos rfl, if_pos rfl] at HO
    obtain rfl : f = s := by omega
    clear hBB
    clear ha hf hu1 hu2 hF hb53 e w2 w5 q3
    go_enter Tryd.func41, Tryd.ntmps41
    go_upto_region 1 with fail
    generalize w.alloc (.cells #[.bool false, .slice none 0 0, .int .i64 0] 30 (0, 0)) = w0 at *
    obtain ⟨cP0, cP1, cP2, fP0, fP1, fP2, sP⟩ := P0.open3
    go_wp2_with
      (first
        | (go_at_call 8; (with_reducible refine (HO.out _ _ ?_).mono ?_); (exact rd_one (heap_alloc_new _ _) trivial); rintro e w1 ⟨vx1, rfl, x1, hb1⟩; have hb1' := (below_a hb1); have B1 := B0.trans (hb1'.mono B0.size); have P1 := P0.below hb1'; clear P0; obtain ⟨cP0_1, cP1_1, cP2_1, fP0_1, fP1_1, fP2_1, sP_1⟩ := P1.open3; obtain ⟨ax1, kx1, rfl, -⟩ := x1.view; try simp only [List.length_nil] at x1)
        | fail)
    obtain ⟨z0, z1, z2, -⟩ := (P1.set3 (.bool n') (.slice ax1 (digs DD B).length kx1) (.int .i64 EB)).open3
    refine bodyPost_ret (v := .agg #[.bool n', .slice ax1 (digs DD B).length kx1, .int .i64 EB]) ?_ rfl ?_
    · simp [results, Tryd.results41, go_sem, z0, z1, z2]
    · exact ⟨_, rfl, x1.set3 P1 dcells32 _ _ _, below_set3 B1 (Nat.le_refl _) _ _ _⟩
  · rw [if_neg h0, if_neg h0] at HO
    obtain ⟨F, hF⟩ : ∃ F, f + 4503599627370496 = F := ⟨_, rfl⟩
    have w4 : IntKind.u64.wrap ((f : Int) + 4503599627370496) = (F : Int) := by rw [IntKind.wrap_u64]; omega
    rw [hF] at HO
    clear hF
    have g2 : ((a : Int) == 0) = false := beq_eq_false_iff_ne.2 (by omega)
    clear hBB
    clear ha hf hu1 hu2 hb53 e
    go_enter Tryd.func41, Tryd.ntmps41
    go_upto_region 1 with fail
    generalize w.alloc (.cells #[.bool false, .slice none 0 0, .int .i64 0] 30 (0, 0)) = w0 at *
    obtain ⟨cP0, cP1, cP2, fP0, fP1, fP2, sP⟩ := P0.open3
    go_wp2_with
      (first
        | (go_at_call 8; (with_reducible refine (HO.out _ _ ?_).mono ?_); (exact rd_one (heap_alloc_new _ _) trivial); rintro e w1 ⟨vx1, rfl, x1, hb1⟩; have hb1' := (below_a hb1); have B1 := B0.trans (hb1'.mono B0.size); have P1 := P0.below hb1'; clear P0; obtain ⟨cP0_1, cP1_1, cP2_1, fP0_1, fP1_1, fP2_1, sP_1⟩ := P1.open3; obtain ⟨ax1, kx1, rfl, -⟩ := x1.view; try simp only [List.length_nil] at x1)
        | fail)
    obtain ⟨z0, z1, z2, -⟩ := (P1.set3 (.bool n') (.slice ax1 (digs DD B).length kx1) (.int .i64 EB)).open3
    refine bodyPost_ret (v := .agg #[.bool n', .slice ax1 (digs DD B).length kx1, .int .i64 EB]) ?_ rfl ?_
    · simp [results, Tryd.results41, go_sem, z0, z1, z2]
    · exact ⟨_, rfl, x1.set3 P1 dcells32 _ _ _, below_set3 B1 (Nat.le_refl _) _ _ _⟩

set_option maxHeartbeats 1000000 in
theorem Rvalue_n {w : World} {s B : Nat} {EB : Int} {n' : Bool} (hs : s ≤ 9218868437227405312) (e : bareD ⟨false, sigF s, unitE s⟩ = ⟨n', B, EB⟩) :
    Calls Tryd.prog 63 #[L64 s] w (fun e w' => ∃ v, e = .returned (.agg #[.bool n', v, .int .i64 EB]) ∧ RdD w' v (digs DD B) ∧ Below w.heap.size w w') := by
  have P0 := blk_new (w := w) (T := 30) (c := #[.bool false, .slice none 0 0, .int .i64 0])
  have B0 := below_alloc w (.cells #[.bool false, .slice none 0 0, .int .i64 0] 30 (0, 0))
  by_cases ht : s = 9218868437227405312
  · subst ht
    obtain ⟨rfl, rfl, rfl⟩ := bare_top e
    clear e hs
    go_enter Tryd.func63, Tryd.ntmps63
    go_upto_region 1 with fail
    generalize w.alloc (.cells #[.bool false, .slice none 0 0, .int .i64 0] 30 (0, 0)) = w0 at *
    obtain ⟨cP0, cP1, cP2, fP0, fP1, fP2, sP⟩ := P0.open3
    go_wp2_with
      (first
        | (go_at_call 40; (with_reducible refine (RLimit_n).mono ?_); rintro e w1 ⟨vx1, rfl, x1, hb1⟩; have B1 := B0.trans (hb1.mono B0.size); have P1 := P0.below hb1; clear P0; obtain ⟨cP0_1, cP1_1, cP2_1, fP0_1, fP1_1, fP2_1, sP_1⟩ := P1.open3; obtain ⟨ax1, kx1, rfl, -⟩ := x1.view; try simp only [List.length_nil] at x1)
        | fail)
    obtain ⟨z0, z1, z2, -⟩ := (P1.set3 (.bool false) (.slice ax1 (digs DD 1).length kx1) (.int .i64 1024)).open3
    refine bodyPost_ret (v := .agg #[.bool false, .slice ax1 (digs DD 1).length kx1, .int .i64 1024]) ?_ rfl ?_
    · simp [results, Tryd.results63, go_sem, z0, z1, z2]
    · exact ⟨_, rfl, x1.set3 P1 dcells32 _ _ _, below_set3 B1 (Nat.le_refl _) _ _ _⟩
  · have HW := Lib.hid (fun w => RWorth_n (w := w) hs e)
    have g1 : ((s : Int) == 9218868437227405312) = false := beq_eq_false_iff_ne.2 (by omega)
    clear e hs ht
    go_enter Tryd.func63, Tryd.ntmps63
    go_upto_region 1 with fail
    generalize w.alloc (.cells #[.bool false, .slice none 0 0, .int .i64 0] 30 (0, 0)) = w0 at *
    obtain ⟨cP0, cP1, cP2, fP0, fP1, fP2, sP⟩ := P0.open3
    go_wp2_with
      (first
        | (go_at_call 41; (with_reducible refine (HW.out _).mono ?_); rintro e w1 ⟨vx1, rfl, x1, hb1⟩; have B1 := B0.trans (hb1.mono B0.size); have P1 := P0.below hb1; clear P0; obtain ⟨cP0_1, cP1_1, cP2_1, fP0_1, fP1_1, fP2_1, sP_1⟩ := P1.open3; obtain ⟨ax1, kx1, rfl, -⟩ := x1.view; try simp only [List.length_nil] at x1)
        | fail)
    obtain ⟨z0, z1, z2, -⟩ := (P1.set3 (.bool n') (.slice ax1 (digs DD B).length kx1) (.int .i64 EB)).open3
    refine bodyPost_ret (v := .agg #[.bool n', .slice ax1 (digs DD B).length kx1, .int .i64 EB]) ?_ rfl ?_
    · simp [results, Tryd.results63, go_sem, z0, z1, z2]
    · exact ⟨_, rfl, x1.set3 P1 dcells32 _ _ _, below_set3 B1 (Nat.le_refl _) _ _ _⟩

set_option maxHeartbeats 2000000 in
theorem RMiddle_n {w : World} {s F : Nat} {U : Int} (hs : s < 9218868437227405312) (hF : 2 * sigF s + 1 = F) (hU : unitE s - 1 = U) :
    Calls Tryd.prog 42 #[L64 s] w (fun e w' => ∃ v, e = .returned (.agg #[.bool false, v, .int .i64 U]) ∧ RdD w' v (digs DD F) ∧ Below w.heap.size w w') := by
  have P0 := blk_new (w := w) (T := 30) (c := #[.bool false, .slice none 0 0, .int .i64 0])
  have B0 := below_alloc w (.cells #[.bool false, .slice none 0 0, .int .i64 0] 30 (0, 0))
  have hu1 := unitE_ge s; have hu2 := unitE_lt hs
  obtain ⟨t, ht⟩ : ∃ t, s + 1 = t := ⟨_, rfl⟩
  have w1' : IntKind.u64.wrap ((s : Int) + 1) = (t : Int) := by rw [IntKind.wrap_u64]; omega
  have w3' : wrap64 U = U := by unfold wrap64; omega
  obtain ⟨b2, hq2⟩ : ∃ b, bareD ⟨false, sigF t, unitE t⟩ = b := ⟨_, rfl⟩
  obtain ⟨n2, B2, E2⟩ := b2
  obtain ⟨rfl, o2, l2, -⟩ := bare_size (s := t) (by omega) (by omega) hq2
  have HV2 := Lib.hid (fun w => Rvalue_n (w := w) (s := t) (by omega) hq2)
  have hadd : ∃ (n1 : Bool) (B1 : Nat) (E1 : Int), Hid (∀ w : World, Calls Tryd.prog 63 #[L64 s] w (fun e w' => ∃ v, e = .returned (.agg #[.bool n1, v, .int .i64 E1]) ∧ RdD w' v (digs DD B1) ∧ Below w.heap.size w w')) ∧
      Hid (∀ (w : World) (u u2 : Value), RdD w u (digs DD B1) → RdD w u2 (digs DD B2) → Calls Tryd.prog 50 #[.agg #[.bool n1, u, .int .i64 E1], .agg #[.bool false, u2, .int .i64 E2]] w (fun e w' => ∃ v, e = .returned (.agg #[.bool false, v, .int .i64 (unitE s)]) ∧ RdD w' v (digs DD F) ∧ Below w.heap.size w w')) := by
    by_cases h0 : s = 0
    · subst h0
      have e0 : sigF 0 = 0 := by decide
      have eu : unitE 0 = -1074 := by decide
      have hq1 : bareD ⟨false, sigF 0, unitE 0⟩ = ⟨false, 0, 0⟩ := bareD_zero e0
      subst ht
      have e1 : sigF (0 + 1) = 1 := by decide
      have eu1 : unitE (0 + 1) = -1074 := by decide
      rw [e1, eu1, show bareD ⟨false, 1, -1074⟩ = ⟨false, 1, -1074⟩ from bareD_odd (by decide) (by decide) (by decide)] at hq2
      injection hq2 with _ q1 q2
      subst q1; subst q2
      rw [e0] at hF
      subst hF
      rw [eu]
      exact ⟨false, 0, 0, Lib.hid (fun w => Rvalue_n (by decide) hq1), Lib.hid (fun w u u2 h k => RAdd_zl h k)⟩
    · subst ht
      obtain ⟨b1, hq1⟩ : ∃ b, bareD ⟨false, sigF s, unitE s⟩ = b := ⟨_, rfl⟩
      obtain ⟨n1, B1, E1⟩ := b1
      obtain ⟨rfl, o1, l1, -⟩ := bare_size (s := s) (by omega) (by omega) hq1
      obtain ⟨s1, s2, m1, m2, m3, m4, m5, m6, m7⟩ := mid_sum (by omega) hs hq1 hq2
      refine ⟨false, B1, E1, Lib.hid (fun w => Rvalue_n (by omega) hq1), Lib.hid (fun w u u2 h k => RAdd_n h k (by omega) (by omega) m1 m2 m3 m4 m5 (by omega) (by omega) ?_)⟩
      unfold addR
      rw [if_pos rfl]
      have : sigF s + (sigF s + 1) = F := by omega
      rw [this]
  obtain ⟨n1, B1', E1, HV1, HA⟩ := hadd
  generalize unitE s = us at *
  clear hq2 o2 l2 ht hs hF hu1 hu2
  go_enter Tryd.func42, Tryd.ntmps42
  go_upto_region 1 with fail
  generalize w.alloc (.cells #[.bool false, .slice none 0 0, .int .i64 0] 30 (0, 0)) = w0 at *
  obtain ⟨cP0, cP1, cP2, fP0, fP1, fP2, sP⟩ := P0.open3
  go_upto_region 2 with
    (first
      | (go_at_call 63; (with_reducible refine (HV1.out _).mono ?_); rintro e w1 ⟨vx1, rfl, x1, hb1⟩; have B1 := B0.trans (hb1.mono B0.size); have P1 := P0.below hb1; clear P0; obtain ⟨cP0_1, cP1_1, cP2_1, fP0_1, fP1_1, fP2_1, sP_1⟩ := P1.open3; obtain ⟨ax1, kx1, rfl, -⟩ := x1.view; try simp only [List.length_nil] at x1)
      | (go_at_call 63; (with_reducible refine (HV2.out _).mono ?_); rintro e w2 ⟨vy2, rfl, y2, hb2⟩; have B2 := B1.trans (hb2.mono B1.size); have P2 := P1.below hb2; have x2 := x1.below hb2; clear P1 x1; clear cP0_1 cP1_1 cP2_1 fP0_1 fP1_1 fP2_1 sP_1; obtain ⟨cP0_2, cP1_2, cP2_2, fP0_2, fP1_2, fP2_2, sP_2⟩ := P2.open3; obtain ⟨ay2, ky2, rfl, -⟩ := y2.view; try simp only [List.length_nil] at y2)
      | (go_at_call 50; (with_reducible refine (HA.out _ _ _ x2 y2).mono ?_); rintro e w3 ⟨vz3, rfl, z3, hb3⟩; have B3 := B2.trans (hb3.mono B2.size); have P3 := P2.below hb3; have x3 := x2.below hb3; have y3 := y2.below hb3; clear P2 x2 y2; clear cP0_2 cP1_2 cP2_2 fP0_2 fP1_2 fP2_2 sP_2; obtain ⟨cP0_3, cP1_3, cP2_3, fP0_3, fP1_3, fP2_3, sP_3⟩ := P3.open3; obtain ⟨az3, kz3, rfl, -⟩ := z3.view; try simp only [List.length_nil] at z3)
      | fail)
  go_upto_region 3 with fail
  have hA := below_alloc w3 (.cells #[.bool false, .slice az3 (digs DD F).length kz3, .int .i64 U] 30 (0, 0))
  have R4 : Blk (w3.alloc (.cells #[.bool false, .slice az3 (digs DD F).length kz3, .int .i64 U] 30 (0, 0))) w3.heap.size #[.bool false, .slice az3 (digs DD F).length kz3, .int .i64 U] := blk_new
  have P4 := P3.below hA
  have z4 := z3.below hA
  have B4 := B3.trans (hA.mono B3.size)
  clear hA cP0_3 cP1_3 cP2_3 fP0_3 fP1_3 fP2_3 P3 z3 x3 y3 B3 HV1 HV2 HA
  generalize w3.alloc (.cells #[.bool false, .slice az3 (digs DD F).length kz3, .int .i64 U] 30 (0, 0)) = w4 at *
  obtain ⟨cP0_4, cP1_4, cP2_4, fP0_4, fP1_4, fP2_4, sP_4⟩ := P4.open3
  obtain ⟨dP0_4, dP1_4, dP2_4, eP0_4, eP1_4, eP2_4, tP_4⟩ := R4.open3
  go_wp2_with fail
  obtain ⟨z0, z1, z2, -⟩ := (P4.set3 (.bool false) (.slice az3 (digs DD F).length kz3) (.int .i64 U)).open3
  refine bodyPost_ret (v := .agg #[.bool false, .slice az3 (digs DD F).length kz3, .int .i64 U]) ?_ rfl ?_
  · simp [results, Tryd.results42, go_sem, z0, z1, z2]
  · exact ⟨_, rfl, z4.set3 P4 dcells32 _ _ _, below_set3 B4 (Nat.le_refl _) _ _ _⟩
end Go.Proofs.YtabdmnjdmnnejaaDoor
