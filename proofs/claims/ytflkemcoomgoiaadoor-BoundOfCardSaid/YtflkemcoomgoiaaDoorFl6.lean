/- round.To by its contract, where more is told and the answer is a number. Conditions: as named; math/bits' table stands in its variable. -/
import Derived.Test.YtflkemcoomgoiaaDoorFl5
namespace Go.Proofs.YtflkemcoomgoiaaDoor
set_option maxRecDepth 100000
open Go.RowKit Go.ChangeShapes Go.WideShapes

theorem or_top2 {b : Nat} (hb : b < 9223372036854775808) : bits .or .u64 ((b + 9223372036854775808 : Nat) : Int) 9223372036854775808 = ((b + 9223372036854775808 : Nat) : Int) := by
  have := (bits_nat .u64 64 (by decide) (fun n h0 h1 => by rw [IntKind.wrap_u64]; omega) (b + 9223372036854775808) 9223372036854775808 (by omega) (by decide)).2
  rw [show ((9223372036854775808 : Nat) : Int) = 9223372036854775808 from rfl] at this
  rw [this]
  have h := Nat.two_pow_add_eq_or_of_lt (i := 63) (b := b) (by omega) 1
  rw [show 2 ^ 63 * 1 = 9223372036854775808 by decide] at h
  rw [Nat.add_comm b, h, Nat.or_comm, ← Nat.or_assoc, Nat.or_self]
theorem signed_again {w : World} {b : Nat} {neg : Bool} (hb : b < 9223372036854775808) : Calls Tryd.prog 42 #[L64 (signedB b neg), .bool neg] w (fun e w' => e = .returned (L64 (signedB b neg)) ∧ w' = w) := by
  have ho := or_top2 hb
  unfold signedB
  cases neg
  · exact signed_n (neg := false) hb
  · rw [if_pos rfl]
    obtain ⟨B, hB⟩ : ∃ B, b + 9223372036854775808 = B := ⟨_, rfl⟩
    rw [hB] at ho ⊢
    clear hB
    go_enter Tryd.func42, Tryd.ntmps42
    go_wp2
    all_goals
      go_ret
      exact ⟨rfl, rfl⟩

set_option maxHeartbeats 2000000 in
theorem To_more {w : World} {v : Value} {neg n1 : Bool} {M M1 M2 q c : Nat} {E E1 E2 dir top u : Int} (h : Num w v M) (hT : Tab w) (h1 : -9223372036854775808 ≤ E) (h2 : E ≤ 9223372036854775807) (e : bareD ⟨neg, M, E⟩ = ⟨n1, M1, E1⟩) (hf : fitsE E1 = true) (d0 : 0 ≤ dir) (d3 : dir ≤ 3)
    (o1 : M1 % 2 = 1) (sM : bitN M1 ≤ 4096) (ht : topD ⟨n1, M1, E1⟩ = top) (ht1 : -1022 ≤ top) (ht2 : top ≤ 1023) (hu : max (top - 52) (-1074) = u) (hw : wholeP n1 M1 E1 true dir u = (q, true)) (sq : bitN q ≤ 60000) (hm : makeQ ⟨n1, q, u⟩ = (n1, M2, E2, 0)) (o2 : M2 % 2 = 1) (sM2 : bitN M2 ≤ 60000)
    (rE : -1074 ≤ E2 ∧ E2 ≤ 1023) (ht3 : topD ⟨n1, M2, E2⟩ ≤ 1023) (hE2 : max (topD ⟨n1, M2, E2⟩ - 52) (-1074) ≤ E2) (hc : c < 9223372036854775808) (hb : exactB n1 M2 E2 = (signedB c n1, true)) :
    Calls Tryd.prog 18 #[.agg #[.bool neg, v, .int .i64 E], .bool true, .int .i64 dir] w (fun e w' => e = .returned (.tuple #[L64 (signedB c n1), .int .u8 1, .int .i64 0]) ∧ Below w.heap.size w w') := by
  have h0 : M1 ≠ 0 := by omega
  have rF : -1073741824 ≤ E1 ∧ E1 ≤ 1073741824 := by unfold fitsE at hf; simp at hf; exact hf
  have ht' := ht
  unfold topD at ht'
  simp only at ht'
  have bE1 : E1.natAbs ≤ 4294967296 := by omega
  have bu : u.natAbs ≤ 4294967296 := by omega
  have bs : bitN M1 + (E1 - u).toNat ≤ 65536 := by omega
  have ed1 : bareD ⟨n1, M1, E1⟩ = ⟨n1, M1, E1⟩ := bareD_odd' o1 (by omega) (by omega)
  have bt : (top - 52).natAbs ≤ 1099511627776 := by omega
  obtain ⟨a, n, k, rfl⟩ := h.slice
  have RG := Lib.hid (fun w v (h : Num w v M) (hT : Tab w) => right_more h hT h1 h2 e hf d0 d3 h0)
  have TP := Lib.hid (fun w v (h : RdN w v (digs BB M1)) (hT : Tab w) => by
    have := Top_n (h.num (by omega)) hT (by omega) (by omega) ed1 h0
    rw [ht] at this; exact this)
  have WH := Lib.hid (fun w v (h : RdN w v (digs BB M1)) (hT : Tab w) => whole_n h hT (by omega) bE1 bu bs hw)
  have MK := Lib.hid (fun w v (h : RdN w v (digs BB q)) (hT : Tab w) => Make_q (h.num (by omega)) hT (by omega) (by omega) hm)
  have EX := Lib.hid (fun w v (h : RdN w v (digs BB M2)) (hT : Tab w) => exact_ok h hT o2 sM2 (by omega) (by omega) rfl ht3 rfl hE2 hb)
  have SG := Lib.hid (fun w => signed_again (w := w) (neg := n1) hc)
  obtain ⟨b, hbb⟩ : ∃ b, signedB c n1 = b := ⟨_, rfl⟩
  rw [hbb] at EX SG ⊢
  have x1 : decide (1023 < top) = false := decide_eq_false (by omega)
  have x2 : decide (top < -1075) = false := decide_eq_false (by omega)
  have x3 : decide (top < -1022) = false := decide_eq_false (by omega)
  clear e hf d0 d3 o1 sM ht ht' ht1 ht2 hw sq hm o2 sM2 rE ht3 hE2 hc hb hbb rF bE1 bu bs ed1 h0
  have wt := wwI bt
  have wt' := iwI bt
  clear bt
  go_enter Tryd.func18, Tryd.ntmps18
  go_upto_region 2 with
  (first
    | (go_at_call 37; (with_reducible refine (RG.out _ _ (h.below (below_alloc _ _)) (hT.below (below_alloc _ _))).mono ?_); rintro e w1 ⟨vx1, rfl, x1, hb1⟩; have B1 := (below_alloc _ _).trans (hb1.mono (below_alloc _ _).size); have m1 := ((h.below (below_alloc _ _))).below hb1; have T1 := ((hT.below (below_alloc _ _))).below hb1; have P1 := ((blk_new)).below hb1; obtain ⟨cP0_1, cP1_1, cP2_1, fP0_1, fP1_1, fP2_1, sP_1⟩ := P1.open3; obtain ⟨ax1, kx1, rfl, -⟩ := x1.view; try simp only [List.length_nil] at x1)
    | fail)
  have P5 := P1.set3 (.bool n1) (.slice ax1 (digs BB M1).length kx1) (.int .i64 E1)
  have x5 := x1.set3 P1 dcells (.bool n1) (.slice ax1 (digs BB M1).length kx1) (.int .i64 E1)
  have B5 := below_set3b (b := w.heap.size) B1 (Nat.le_refl _) (.bool n1) (.slice ax1 (digs BB M1).length kx1) (.int .i64 E1)
  clear cP0_1 cP1_1 cP2_1 fP0_1 fP1_1 fP2_1 sP_1 P1 x1 B1 T1 m1 hb1
  generalize ((w1.setCell ⟨w.heap.size, 0, none⟩ (.bool n1)).setCell ⟨w.heap.size, 1, none⟩ (.slice ax1 (digs BB M1).length kx1)).setCell ⟨w.heap.size, 2, none⟩ (.int .i64 E1) = w5 at *
  have T5 := hT.below B5
  obtain ⟨cP0_5, cP1_5, cP2_5, fP0_5, fP1_5, fP2_5, sP_5⟩ := P5.open3
  go_wp2_with
  (first
    | (go_at_call 38; (with_reducible refine (TP.out _ _ x5 T5).mono ?_); rintro e w6 ⟨rfl, hb6⟩; have B6 := B5.trans (hb6.mono B5.size); have x6 := x5.below hb6; have T6 := T5.below hb6; have P6 := P5.below hb6; clear x5 T5 P5; obtain ⟨cP0_6, cP1_6, cP2_6, fP0_6, fP1_6, fP2_6, sP_6⟩ := P6.open3)
    | (go_at_call 39; (with_reducible refine (WH.out _ _ x6 T6).mono ?_); rintro e w7 ⟨vz7, rfl, z7, hb7⟩; have B7 := B6.trans (hb7.mono B6.size); have x7 := x6.below hb7; have T7 := T6.below hb7; have P7 := P6.below hb7; clear x6 T6 P6; clear cP0_6 cP1_6 cP2_6 fP0_6 fP1_6 fP2_6 sP_6; obtain ⟨cP0_7, cP1_7, cP2_7, fP0_7, fP1_7, fP2_7, sP_7⟩ := P7.open3)
    | (go_at_call 40; (with_reducible refine (MK.out _ _ z7 T7).mono ?_); rintro e w8 ⟨vy8, rfl, y8, hb8⟩; have B8 := B7.trans (hb8.mono B7.size); have x8 := x7.below hb8; have T8 := T7.below hb8; have P8 := P7.below hb8; have z8 := z7.below hb8; clear x7 T7 P7 z7; clear cP0_7 cP1_7 cP2_7 fP0_7 fP1_7 fP2_7 sP_7; obtain ⟨cP0_8, cP1_8, cP2_8, fP0_8, fP1_8, fP2_8, sP_8⟩ := P8.open3; obtain ⟨ay8, ky8, rfl, -⟩ := y8.view; try simp only [List.length_nil] at y8)
    | (go_at_call 41; (with_reducible refine (EX.out _ _ (y8.below (below_alloc _ _)) (T8.below (below_alloc _ _))).mono ?_); rintro e w9 ⟨rfl, hb9⟩; have hb9' := (below_a hb9); have B9 := B8.trans (hb9'.mono B8.size); have x9 := x8.below hb9'; have T9 := T8.below hb9'; have P9 := P8.below hb9'; have z9 := z8.below hb9'; have y9 := y8.below hb9'; clear x8 T8 P8 z8 y8; clear cP0_8 cP1_8 cP2_8 fP0_8 fP1_8 fP2_8 sP_8; obtain ⟨cP0_9, cP1_9, cP2_9, fP0_9, fP1_9, fP2_9, sP_9⟩ := P9.open3)
    | (go_at_call 42; (with_reducible refine (SG.out _).mono ?_); rintro e w10 ⟨rfl, rfl⟩)
    | fail)
  all_goals
    go_ret3
    exact ⟨rfl, by assumption⟩
end Go.Proofs.YtflkemcoomgoiaaDoor
