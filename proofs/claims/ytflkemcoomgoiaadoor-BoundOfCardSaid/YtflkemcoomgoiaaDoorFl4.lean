/- float.Exact by its contract. Conditions: the dyad is bare and a number of binary64; math/bits' table stands in its variable. -/
import Derived.Test.YtflkemcoomgoiaaDoorFl3
namespace Go.Proofs.YtflkemcoomgoiaaDoor
set_option maxRecDepth 100000
open Go.RowKit Go.ChangeShapes Go.WideShapes

theorem nsmall_n {w : World} {v : Value} {A : Nat} (h : RdN w v (digs BB A)) (hA : A < BB) : Calls Tryd.prog 60 #[v] w (fun e w' => e = .returned (.tuple #[L64 A, .bool true]) ∧ Below w.heap.size w w') := by
  have hl : (digs BB A).length ≤ 1 := by
    by_cases h0 : A = 0
    · rw [h0, digs_zero]; exact Nat.zero_le _
    · rw [digs_pos BB_two (by omega), show A / BB = 0 from Nat.div_eq_of_lt hA, digs_zero]; exact Nat.le_refl _
  have hs : strip (digs BB A) = digs BB A := by
    have := strip_eq BB_two (dig_digs BB_two A)
    rw [val_digs BB_two] at this; exact this
  have hv : (digs BB A).getD 0 0 = A := by
    by_cases h0 : A = 0
    · rw [h0, digs_zero]; rfl
    · rw [digs_pos BB_two (by omega)]; exact Nat.mod_eq_of_lt hA
  have := small_any h (by omega)
  rw [hs, if_pos hl, hv, decide_eq_true hl] at this
  exact this

set_option maxHeartbeats 2000000 in
theorem exact_ok {w : World} {v : Value} {n : Bool} {M b : Nat} {E top u : Int} (hv : RdN w v (digs BB M)) (hT : Tab w) (o : M % 2 = 1) (sM : bitN M ≤ 60000) (e1 : -1073741824 ≤ E) (e2 : E ≤ 1073741824) (ht : topD ⟨n, M, E⟩ = top) (ht1 : top ≤ 1023) (hu : max (top - 52) (-1074) = u) (hE : u ≤ E) (hb : exactB n M E = (b, true)) :
    Calls Tryd.prog 41 #[.agg #[.bool n, v, .int .i64 E]] w (fun e w' => e = .returned (.tuple #[L64 b, .bool true]) ∧ Below w.heap.size w w') := by
  have h0 : M ≠ 0 := by omega
  have ed : bareD ⟨n, M, E⟩ = ⟨n, M, E⟩ := bareD_odd' o (by omega) (by omega)
  have hf : fitsE E = true := by unfold fitsE; rw [decide_eq_true (by omega), decide_eq_true (by omega)]; rfl
  obtain ⟨av, kv, rfl, -⟩ := hv.view
  have TP := Lib.hid (fun w v (h : RdN w v (digs BB M)) (hT : Tab w) => by
    have := Top_n (h.num (by omega)) hT (by omega) (by omega) ed h0
    rw [ht] at this; exact this)
  have BA := Lib.hid (fun w v (h : RdN w v (digs BB M)) (hT : Tab w) => Bare_ok (h.num (by omega)) hT (by omega) (by omega) ed hf)
  have htop := ht
  unfold topD at ht
  simp only at ht
  obtain ⟨s, hs⟩ : ∃ s : Nat, (E - u).toNat = s := ⟨_, rfl⟩
  have hse : E - u = (s : Int) := by omega
  have hbits : bitN M + s ≤ 53 := by omega
  have hs1 : s + bitN M ≤ 65536 := by omega
  have bs : s ≤ 1099511627776 := by omega
  have bt : (top - 52).natAbs ≤ 1099511627776 := by omega
  obtain ⟨K, hK, hK1, hK2⟩ : ∃ K : Nat, u + 1075 = (K : Int) ∧ 1 ≤ K ∧ K ≤ 2046 := ⟨(u + 1075).toNat, by omega, by omega, by omega⟩
  have hKt : (u + 1075).toNat = K := by omega
  have bK : K ≤ 1099511627776 := by omega
  have d1 : decide (1023 < top) = false := decide_eq_false (by omega)
  have d2 : decide (E < u) = false := decide_eq_false (by omega)
  have hno : ¬ (1023 < top ∨ E < u) := by omega
  have sM' : bitN M ≤ 2560000 := by omega
  clear ht ed hf e1 e2 o hE ht1
  unfold exactB at hb
  rw [if_neg h0, htop, hu, if_neg hno, hs, hKt] at hb
  injection hb with hb _
  obtain ⟨m, hm⟩ : ∃ m, M * 2 ^ s = m := ⟨_, rfl⟩
  have hm53 : m < 9007199254740992 := by
    have h1 := bitN_lt m
    have h2 : bitN m = bitN M + s := by rw [← hm, bitN_shift h0]
    rw [h2] at h1
    exact Nat.lt_of_lt_of_le h1 (Nat.le_trans (Nat.pow_le_pow_right (by decide) hbits) (by decide))
  rw [hm] at hb
  have SH := Lib.hid (fun w v (h : RdN w v (digs BB M)) => shl_n (h.num sM') hm hs1)
  have SM := Lib.hid (fun w v (h : RdN w v (digs BB m)) => nsmall_n h (Nat.lt_trans hm53 (by decide)))
  clear hm hs hbits hs1 htop hno sM sM' hKt
  have ha := and_frac m (by omega)
  have ho := or_field (f := m % 4503599627370496) (k := K) (Nat.mod_lt _ (by decide)) (by omega)
  by_cases hbig : 4503599627370496 ≤ m
  · rw [if_pos hbig] at hb
    have d3 : decide (4503599627370496 ≤ m) = true := decide_eq_true hbig
    have d4 : decide (4503599627370496 ≤ (m : Int)) = true := decide_eq_true (by omega)
    obtain ⟨B, hB⟩ : ∃ B, m % 4503599627370496 + K * 4503599627370496 = B := ⟨_, rfl⟩
    have hB63 : B < 9223372036854775808 := by have := Nat.mod_lt m (show 4503599627370496 > 0 by decide); omega
    rw [hB] at hb ho
    have hot := or_top hB63
    have e1 : ((m % 4503599627370496 : Nat) : Int) = (m : Int) % 4503599627370496 := by omega
    have e2 : ((K * 4503599627370496 : Nat) : Int) = (K : Int) * 4503599627370496 := by omega
    have e3 : IntKind.u64.wrap ((K : Int) * 4503599627370496) = (K : Int) * 4503599627370496 := by rw [IntKind.wrap_u64]; omega
    rw [e1, e2, ← e3] at ho
    clear e1 e2 e3
    clear hB hB63 hbig hm53 hK1 hK2
    have wt := wwI bt
    have wt' := iwI bt
    have wK := wwN bK
    have wK' := iwN bK
    have wKu := uwN bK
    have ws := wwN bs
    have ws' := iwN bs
    clear bt bK bs
    cases n
    · simp only [signedB, Bool.false_eq_true, if_false] at hb
      subst hb
      go_enter Tryd.func41, Tryd.ntmps41
      go_upto_region 7 with
      (first
        | (go_at_call 38; (with_reducible refine (TP.out _ _ (hv.below (below_alloc _ _)) (hT.below (below_alloc _ _))).mono ?_); rintro e w1 ⟨rfl, hb1⟩; have B1 := (below_alloc _ _).trans (hb1.mono (below_alloc _ _).size); have m1 := ((hv.below (below_alloc _ _))).below hb1; have T1 := ((hT.below (below_alloc _ _))).below hb1; have P1 := ((blk_new)).below hb1; obtain ⟨cP0_1, cP1_1, cP2_1, fP0_1, fP1_1, fP2_1, sP_1⟩ := P1.open3)
        | (go_at_call 51; (with_reducible refine (BA.out _ _ m1 T1).mono ?_); rintro e w2 ⟨vx2, rfl, x2, hb2⟩; have B2 := B1.trans (hb2.mono B1.size); have m2 := m1.below hb2; have T2 := T1.below hb2; have P2 := P1.below hb2; clear m1 T1 P1; clear cP0_1 cP1_1 cP2_1 fP0_1 fP1_1 fP2_1 sP_1; obtain ⟨cP0_2, cP1_2, cP2_2, fP0_2, fP1_2, fP2_2, sP_2⟩ := P2.open3; obtain ⟨ax2, kx2, rfl, -⟩ := x2.view; try simp only [List.length_nil] at x2)
        | fail)
      have P5 := P2.set3 (.bool false) (.slice ax2 (digs BB M).length kx2) (.int .i64 E)
      have x5 := x2.set3 P2 dcells (.bool false) (.slice ax2 (digs BB M).length kx2) (.int .i64 E)
      have B5 := below_set3b (b := w.heap.size) B2 (Nat.le_refl _) (.bool false) (.slice ax2 (digs BB M).length kx2) (.int .i64 E)
      clear cP0_2 cP1_2 cP2_2 fP0_2 fP1_2 fP2_2 sP_2 P2 x2 B2 T2 m2 hb2
      generalize ((w2.setCell ⟨w.heap.size, 0, none⟩ (.bool false)).setCell ⟨w.heap.size, 1, none⟩ (.slice ax2 (digs BB M).length kx2)).setCell ⟨w.heap.size, 2, none⟩ (.int .i64 E) = w5 at *
      obtain ⟨cP0_5, cP1_5, cP2_5, fP0_5, fP1_5, fP2_5, sP_5⟩ := P5.open3
      go_wp2_with
      (first
        | (go_at_call 65; (with_reducible refine (SH.out _ _ x5).mono ?_); rintro e w6 ⟨vy6, rfl, y6, hb6⟩; have B6 := B5.trans (hb6.mono B5.size); have x6 := x5.below hb6; have P6 := P5.below hb6; clear x5 P5; obtain ⟨cP0_6, cP1_6, cP2_6, fP0_6, fP1_6, fP2_6, sP_6⟩ := P6.open3; obtain ⟨ay6, ky6, rfl, -⟩ := y6.view; try simp only [List.length_nil] at y6)
        | (go_at_call 60; (with_reducible refine (SM.out _ _ y6).mono ?_); rintro e w7 ⟨rfl, hb7⟩; have B7 := B6.trans (hb7.mono B6.size); have x7 := x6.below hb7; have P7 := P6.below hb7; have y7 := y6.below hb7; clear x6 P6 y6; clear cP0_6 cP1_6 cP2_6 fP0_6 fP1_6 fP2_6 sP_6; obtain ⟨cP0_7, cP1_7, cP2_7, fP0_7, fP1_7, fP2_7, sP_7⟩ := P7.open3)
        | fail)
      all_goals
        go_ret2
        exact ⟨rfl, by assumption⟩
    · simp only [signedB, if_true] at hb
      subst hb
      go_enter Tryd.func41, Tryd.ntmps41
      go_upto_region 7 with
      (first
        | (go_at_call 38; (with_reducible refine (TP.out _ _ (hv.below (below_alloc _ _)) (hT.below (below_alloc _ _))).mono ?_); rintro e w1 ⟨rfl, hb1⟩; have B1 := (below_alloc _ _).trans (hb1.mono (below_alloc _ _).size); have m1 := ((hv.below (below_alloc _ _))).below hb1; have T1 := ((hT.below (below_alloc _ _))).below hb1; have P1 := ((blk_new)).below hb1; obtain ⟨cP0_1, cP1_1, cP2_1, fP0_1, fP1_1, fP2_1, sP_1⟩ := P1.open3)
        | (go_at_call 51; (with_reducible refine (BA.out _ _ m1 T1).mono ?_); rintro e w2 ⟨vx2, rfl, x2, hb2⟩; have B2 := B1.trans (hb2.mono B1.size); have m2 := m1.below hb2; have T2 := T1.below hb2; have P2 := P1.below hb2; clear m1 T1 P1; clear cP0_1 cP1_1 cP2_1 fP0_1 fP1_1 fP2_1 sP_1; obtain ⟨cP0_2, cP1_2, cP2_2, fP0_2, fP1_2, fP2_2, sP_2⟩ := P2.open3; obtain ⟨ax2, kx2, rfl, -⟩ := x2.view; try simp only [List.length_nil] at x2)
        | fail)
      have P5 := P2.set3 (.bool true) (.slice ax2 (digs BB M).length kx2) (.int .i64 E)
      have x5 := x2.set3 P2 dcells (.bool true) (.slice ax2 (digs BB M).length kx2) (.int .i64 E)
      have B5 := below_set3b (b := w.heap.size) B2 (Nat.le_refl _) (.bool true) (.slice ax2 (digs BB M).length kx2) (.int .i64 E)
      clear cP0_2 cP1_2 cP2_2 fP0_2 fP1_2 fP2_2 sP_2 P2 x2 B2 T2 m2 hb2
      generalize ((w2.setCell ⟨w.heap.size, 0, none⟩ (.bool true)).setCell ⟨w.heap.size, 1, none⟩ (.slice ax2 (digs BB M).length kx2)).setCell ⟨w.heap.size, 2, none⟩ (.int .i64 E) = w5 at *
      obtain ⟨cP0_5, cP1_5, cP2_5, fP0_5, fP1_5, fP2_5, sP_5⟩ := P5.open3
      go_wp2_with
      (first
        | (go_at_call 65; (with_reducible refine (SH.out _ _ x5).mono ?_); rintro e w6 ⟨vy6, rfl, y6, hb6⟩; have B6 := B5.trans (hb6.mono B5.size); have x6 := x5.below hb6; have P6 := P5.below hb6; clear x5 P5; obtain ⟨cP0_6, cP1_6, cP2_6, fP0_6, fP1_6, fP2_6, sP_6⟩ := P6.open3; obtain ⟨ay6, ky6, rfl, -⟩ := y6.view; try simp only [List.length_nil] at y6)
        | (go_at_call 60; (with_reducible refine (SM.out _ _ y6).mono ?_); rintro e w7 ⟨rfl, hb7⟩; have B7 := B6.trans (hb7.mono B6.size); have x7 := x6.below hb7; have P7 := P6.below hb7; have y7 := y6.below hb7; clear x6 P6 y6; clear cP0_6 cP1_6 cP2_6 fP0_6 fP1_6 fP2_6 sP_6; obtain ⟨cP0_7, cP1_7, cP2_7, fP0_7, fP1_7, fP2_7, sP_7⟩ := P7.open3)
        | fail)
      all_goals
        go_ret2
        exact ⟨rfl, by assumption⟩
  · rw [if_neg hbig] at hb
    have d3 : decide (4503599627370496 ≤ m) = false := decide_eq_false hbig
    have d4 : decide (4503599627370496 ≤ (m : Int)) = false := decide_eq_false (by omega)
    have hot := or_top (b := m) (by omega)
    clear hbig hm53 hK1 hK2 ha ho
    have wt := wwI bt
    have wt' := iwI bt
    have wK := wwN bK
    have wK' := iwN bK
    have wKu := uwN bK
    have ws := wwN bs
    have ws' := iwN bs
    clear bt bK bs
    cases n
    · simp only [signedB, Bool.false_eq_true, if_false] at hb
      subst hb
      go_enter Tryd.func41, Tryd.ntmps41
      go_upto_region 7 with
      (first
        | (go_at_call 38; (with_reducible refine (TP.out _ _ (hv.below (below_alloc _ _)) (hT.below (below_alloc _ _))).mono ?_); rintro e w1 ⟨rfl, hb1⟩; have B1 := (below_alloc _ _).trans (hb1.mono (below_alloc _ _).size); have m1 := ((hv.below (below_alloc _ _))).below hb1; have T1 := ((hT.below (below_alloc _ _))).below hb1; have P1 := ((blk_new)).below hb1; obtain ⟨cP0_1, cP1_1, cP2_1, fP0_1, fP1_1, fP2_1, sP_1⟩ := P1.open3)
        | (go_at_call 51; (with_reducible refine (BA.out _ _ m1 T1).mono ?_); rintro e w2 ⟨vx2, rfl, x2, hb2⟩; have B2 := B1.trans (hb2.mono B1.size); have m2 := m1.below hb2; have T2 := T1.below hb2; have P2 := P1.below hb2; clear m1 T1 P1; clear cP0_1 cP1_1 cP2_1 fP0_1 fP1_1 fP2_1 sP_1; obtain ⟨cP0_2, cP1_2, cP2_2, fP0_2, fP1_2, fP2_2, sP_2⟩ := P2.open3; obtain ⟨ax2, kx2, rfl, -⟩ := x2.view; try simp only [List.length_nil] at x2)
        | fail)
      have P5 := P2.set3 (.bool false) (.slice ax2 (digs BB M).length kx2) (.int .i64 E)
      have x5 := x2.set3 P2 dcells (.bool false) (.slice ax2 (digs BB M).length kx2) (.int .i64 E)
      have B5 := below_set3b (b := w.heap.size) B2 (Nat.le_refl _) (.bool false) (.slice ax2 (digs BB M).length kx2) (.int .i64 E)
      clear cP0_2 cP1_2 cP2_2 fP0_2 fP1_2 fP2_2 sP_2 P2 x2 B2 T2 m2 hb2
      generalize ((w2.setCell ⟨w.heap.size, 0, none⟩ (.bool false)).setCell ⟨w.heap.size, 1, none⟩ (.slice ax2 (digs BB M).length kx2)).setCell ⟨w.heap.size, 2, none⟩ (.int .i64 E) = w5 at *
      obtain ⟨cP0_5, cP1_5, cP2_5, fP0_5, fP1_5, fP2_5, sP_5⟩ := P5.open3
      go_wp2_with
      (first
        | (go_at_call 65; (with_reducible refine (SH.out _ _ x5).mono ?_); rintro e w6 ⟨vy6, rfl, y6, hb6⟩; have B6 := B5.trans (hb6.mono B5.size); have x6 := x5.below hb6; have P6 := P5.below hb6; clear x5 P5; obtain ⟨cP0_6, cP1_6, cP2_6, fP0_6, fP1_6, fP2_6, sP_6⟩ := P6.open3; obtain ⟨ay6, ky6, rfl, -⟩ := y6.view; try simp only [List.length_nil] at y6)
        | (go_at_call 60; (with_reducible refine (SM.out _ _ y6).mono ?_); rintro e w7 ⟨rfl, hb7⟩; have B7 := B6.trans (hb7.mono B6.size); have x7 := x6.below hb7; have P7 := P6.below hb7; have y7 := y6.below hb7; clear x6 P6 y6; clear cP0_6 cP1_6 cP2_6 fP0_6 fP1_6 fP2_6 sP_6; obtain ⟨cP0_7, cP1_7, cP2_7, fP0_7, fP1_7, fP2_7, sP_7⟩ := P7.open3)
        | fail)
      all_goals
        go_ret2
        exact ⟨rfl, by assumption⟩
    · simp only [signedB, if_true] at hb
      subst hb
      go_enter Tryd.func41, Tryd.ntmps41
      go_upto_region 7 with
      (first
        | (go_at_call 38; (with_reducible refine (TP.out _ _ (hv.below (below_alloc _ _)) (hT.below (below_alloc _ _))).mono ?_); rintro e w1 ⟨rfl, hb1⟩; have B1 := (below_alloc _ _).trans (hb1.mono (below_alloc _ _).size); have m1 := ((hv.below (below_alloc _ _))).below hb1; have T1 := ((hT.below (below_alloc _ _))).below hb1; have P1 := ((blk_new)).below hb1; obtain ⟨cP0_1, cP1_1, cP2_1, fP0_1, fP1_1, fP2_1, sP_1⟩ := P1.open3)
        | (go_at_call 51; (with_reducible refine (BA.out _ _ m1 T1).mono ?_); rintro e w2 ⟨vx2, rfl, x2, hb2⟩; have B2 := B1.trans (hb2.mono B1.size); have m2 := m1.below hb2; have T2 := T1.below hb2; have P2 := P1.below hb2; clear m1 T1 P1; clear cP0_1 cP1_1 cP2_1 fP0_1 fP1_1 fP2_1 sP_1; obtain ⟨cP0_2, cP1_2, cP2_2, fP0_2, fP1_2, fP2_2, sP_2⟩ := P2.open3; obtain ⟨ax2, kx2, rfl, -⟩ := x2.view; try simp only [List.length_nil] at x2)
        | fail)
      have P5 := P2.set3 (.bool true) (.slice ax2 (digs BB M).length kx2) (.int .i64 E)
      have x5 := x2.set3 P2 dcells (.bool true) (.slice ax2 (digs BB M).length kx2) (.int .i64 E)
      have B5 := below_set3b (b := w.heap.size) B2 (Nat.le_refl _) (.bool true) (.slice ax2 (digs BB M).length kx2) (.int .i64 E)
      clear cP0_2 cP1_2 cP2_2 fP0_2 fP1_2 fP2_2 sP_2 P2 x2 B2 T2 m2 hb2
      generalize ((w2.setCell ⟨w.heap.size, 0, none⟩ (.bool true)).setCell ⟨w.heap.size, 1, none⟩ (.slice ax2 (digs BB M).length kx2)).setCell ⟨w.heap.size, 2, none⟩ (.int .i64 E) = w5 at *
      obtain ⟨cP0_5, cP1_5, cP2_5, fP0_5, fP1_5, fP2_5, sP_5⟩ := P5.open3
      go_wp2_with
      (first
        | (go_at_call 65; (with_reducible refine (SH.out _ _ x5).mono ?_); rintro e w6 ⟨vy6, rfl, y6, hb6⟩; have B6 := B5.trans (hb6.mono B5.size); have x6 := x5.below hb6; have P6 := P5.below hb6; clear x5 P5; obtain ⟨cP0_6, cP1_6, cP2_6, fP0_6, fP1_6, fP2_6, sP_6⟩ := P6.open3; obtain ⟨ay6, ky6, rfl, -⟩ := y6.view; try simp only [List.length_nil] at y6)
        | (go_at_call 60; (with_reducible refine (SM.out _ _ y6).mono ?_); rintro e w7 ⟨rfl, hb7⟩; have B7 := B6.trans (hb7.mono B6.size); have x7 := x6.below hb7; have P7 := P6.below hb7; have y7 := y6.below hb7; clear x6 P6 y6; clear cP0_6 cP1_6 cP2_6 fP0_6 fP1_6 fP2_6 sP_6; obtain ⟨cP0_7, cP1_7, cP2_7, fP0_7, fP1_7, fP2_7, sP_7⟩ := P7.open3)
        | fail)
      all_goals
        go_ret2
        exact ⟨rfl, by assumption⟩
end Go.Proofs.YtflkemcoomgoiaaDoor
