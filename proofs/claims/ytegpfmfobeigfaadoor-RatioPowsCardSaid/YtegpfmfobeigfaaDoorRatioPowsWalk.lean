/- RatioPows returns true and leaves what was there: the walk. Conditions: math/bits' table stands in its variable. -/
import Derived.Test.YtegpfmfobeigfaaDoorLaw10
import Derived.Test.YtegpfmfobeigfaaDoorLaw10c
import Derived.Test.YtegpfmfobeigfaaDoorRefPow
import Derived.Test.YtegpfmfobeigfaaDoorRefDy3
import Derived.Test.YtegpfmfobeigfaaDoorRat4
import Derived.Test.YtegpfmfobeigfaaDoorRefA
import Derived.Deep.CutBlock
import Derived.Deep.RegionHeld3
namespace Go.Proofs.YtegpfmfobeigfaaDoor.PRPows
set_option maxRecDepth 100000
open Go.RowKit Go.Proofs.YtegpfmfobeigfaaDoor


/-- What is bared is odd, or nothing. -/
theorem bare_out {d : Dn} {n : Bool} {M : Nat} {E : Int} (h : bareD d = ⟨n, M, E⟩) (hd : bitN d.m ≤ 1280) : (M % 2 = 1 ∨ M = 0 ∧ n = false ∧ E = 0) ∧ -2147483648 ≤ E ∧ E ≤ 2147484928 := by
  by_cases h0 : d.m = 0
  · rw [bareD_zero h0] at h
    injection h with z1 z2 z3
    exact ⟨.inr ⟨z2.symm, z1.symm, z3.symm⟩, by omega, by omega⟩
  · rw [bareD_pos h0] at h
    injection h with z1 z2 z3
    obtain ⟨k, hk⟩ := low2_eq h0
    have hl := low2_lt h0
    have hc := cutE_range d.e
    refine ⟨.inl ?_, by omega, by omega⟩
    rw [← z2, odd_eq hk]; omega

/-- What ratio.Pow does with any dyad of at most 1280 bits: refused, too long, or the power. -/
theorem pow_way {b0 n' ff r : Bool} {A M b : Nat} {e0 E a1 : Int} (ed : bareD ⟨b0, A, e0⟩ = ⟨n', M, E⟩) (hodd : M % 2 = 1 ∨ M = 0 ∧ n' = false ∧ E = 0) (h2 : -9223372036854775808 ≤ e0 ∧ e0 ≤ 9223372036854775807) (h1 : -9223372036854775808 ≤ a1 ∧ a1 ≤ 9223372036854775807)
    (hb : bitN M = b) (hff : fitsE E = ff) (hr : (fitsE E && decide (bitN M * a1.natAbs ≤ 60000) && decide (E.natAbs * a1.natAbs ≤ 60000)) = r) :
    ∃ (pn : Bool) (pM : Nat) (pE k : Int), (∀ (w : World) (v : Value), Num w v A → Tab w → Calls Tryd.prog 9 #[.agg #[.bool b0, v, .int .i64 e0], .int .i64 a1] w (fun e w' => ∃ v, e = .returned (.tuple #[.agg #[.bool pn, v, .int .i64 pE], .int .i64 k]) ∧ RdN w' v (digs BB pM) ∧ Below w.heap.size w w')) ∧
        ((ff = false ∨ a1 < 0) ∧ k = 1 ∧ pM = 0 ∨ ff = true ∧ 0 ≤ a1 ∧ r = false ∧ k = 2 ∧ pM = 0 ∨
          ∃ K : Nat, a1 = K ∧ ff = true ∧ r = true ∧ k = 0 ∧ b * K ≤ 60000 ∧ E.natAbs * K ≤ 60000 ∧ (M = 0 ∧ 0 < K ∧ pM = 0 ∨ (M % 2 = 1 ∨ M = 0 ∧ K = 0 ∧ n' = false ∧ E = 0) ∧ (n' && decide (K % 2 = 1)) = pn ∧ M ^ K = pM ∧ E * (K : Int) = pE)) := by
  subst hb
  by_cases hbad : ff = false ∨ a1 < 0
  · refine ⟨false, 0, 0, 1, fun w v h hT => ?_, .inl ⟨hbad, rfl, rfl⟩⟩
    refine (Pow_arg h hT h2.1 h2.2 ed (by rw [hff]; exact hbad)).mono ?_
    rintro e w' ⟨rfl, hB⟩
    exact ⟨_, rfl, RdN.nil0 _, hB⟩
  · have hf1 : ff = true := by cases ff; exact absurd (.inl rfl) hbad; rfl
    have ha : 0 ≤ a1 := by have := fun h => hbad (.inr h); omega
    subst hf1
    rw [hff, Bool.true_and] at hr
    cases r
    · refine ⟨false, 0, 0, 2, fun w v h hT => ?_, .inr (.inl ⟨rfl, ha, rfl, rfl, rfl⟩)⟩
      refine (Pow_long h hT h2.1 h2.2 ed hff ha h1.2 hr).mono ?_
      rintro e w' ⟨rfl, hB⟩
      exact ⟨_, rfl, RdN.nil0 _, hB⟩
    · obtain ⟨K, rfl⟩ : ∃ K : Nat, a1 = K := ⟨a1.toNat, by omega⟩
      rw [Bool.and_eq_true, decide_eq_true_eq, decide_eq_true_eq, Int.natAbs_natCast] at hr
      obtain ⟨hr1, hr2⟩ := hr
      by_cases h00 : M = 0 ∧ 0 < K
      · obtain ⟨rfl, hK⟩ := h00
        refine ⟨false, 0, 0, 0, fun w v h hT => ?_, .inr (.inr ⟨K, rfl, rfl, rfl, rfl, hr1, hr2, .inl ⟨rfl, hK, rfl⟩⟩)⟩
        exact Pow_ok h hT h2.1 h2.2 ed (by omega) hff hr1 hr2 (Nat.zero_pow hK) (bareD_zero rfl) rfl
      · have hod : M % 2 = 1 ∨ M = 0 ∧ K = 0 ∧ n' = false ∧ E = 0 := by
          rcases hodd with h | ⟨h, h', h''⟩
          · exact .inl h
          · exact .inr ⟨h, by have := fun hk => h00 ⟨h, hk⟩; omega, h', h''⟩
        have hP : (M ^ K) % 2 = 1 := by
          rcases hod with h | ⟨h, rfl, -, -⟩
          · exact odd_pow h K
          · rfl
        have ht : (E * (K : Int)).natAbs ≤ 60000 := by rw [Int.natAbs_mul, Int.natAbs_natCast]; exact hr2
        have ht1 : -60000 ≤ E * (K : Int) := by omega
        have ht2 : E * (K : Int) ≤ 60000 := by omega
        refine ⟨n' && decide (K % 2 = 1), M ^ K, E * (K : Int), 0, fun w v h hT => ?_, .inr (.inr ⟨K, rfl, rfl, rfl, rfl, hr1, hr2, .inr ⟨hod, rfl, rfl, rfl⟩⟩)⟩
        exact Pow_ok h hT h2.1 h2.2 ed (by omega) hff hr1 hr2 rfl (bareD_odd hP (by omega) (by omega)) (by unfold fitsE; rw [decide_eq_true (by omega), decide_eq_true (by omega)]; rfl)


set_option maxRecDepth 100000 in
set_option maxHeartbeats 1000000 in
theorem walk (b0 : Bool) (a0 : Option Addr) (len0 cap0 : Nat) (z0 : List Int) (e0 a1 : Int) (w : World) (w0 : IsRow .u64 w a0 len0 cap0 z0) (we : (Lit.int .i64 e0).wf = true) (w1 : (Lit.int .i64 a1).wf = true) (hT : Tab w) :
    Calls Tryd.prog 3 #[.agg #[.bool b0, .slice a0 len0 cap0, .int .i64 e0], .int .i64 a1] w fun e w' => e = .returned (.bool true) ∧ Below w.heap.size w w' := by
  obtain ⟨l, hl, dl, RL, hl64⟩ := w0.nums
  have h1 : -9223372036854775808 ≤ a1 ∧ a1 ≤ 9223372036854775807 := by simpa [Lit.wf, IntKind.min, IntKind.max, IntKind.bits, IntKind.signed] using w1
  have h2 : -9223372036854775808 ≤ e0 ∧ e0 ≤ 9223372036854775807 := by simpa [Lit.wf, IntKind.min, IntKind.max, IntKind.bits, IntKind.signed] using we
  clear w0 w1 we
  by_cases hbig : 20 < len0
  · clear RL dl hl
    have dec0 : decide (20 < (len0 : Int)) = true := decide_eq_true (by omega)
    go_enter Tryd.func3, Tryd.ntmps3
    go_wp2_with
    (first
      | (go_at_call 7; (with_reducible refine (alive10_any (hT.below (below_alloc _ _))).mono ?_); rintro e w1 ⟨rfl, hb1⟩; have B1 := (below_alloc _ _).trans (hb1.mono (below_alloc _ _).size); have T1 := ((hT.below (below_alloc _ _))).below hb1; have P1 := ((blk_new)).below hb1; obtain ⟨cP0_1, cP1_1, cP2_1, fP0_1, fP1_1, fP2_1, sP_1⟩ := P1.open3)
      | fail)
    all_goals
      go_ret
      exact ⟨rfl, by assumption⟩
  · have dec0 : decide (20 < (len0 : Int)) = false := decide_eq_false (by omega)
    have hlen : len0 ≤ 20 := by omega
    have bA := val_bits dl (show l.length ≤ 20 by omega)
    have RA := RL.numl dl (by omega)
    clear dl RL
    generalize val BB l = A at *
    obtain ⟨⟨n', M, E⟩, ed⟩ : ∃ d, bareD ⟨b0, A, e0⟩ = d := ⟨_, rfl⟩
    have sM : bitN M ≤ 1280 := by
      have := bareD_m_le ⟨b0, A, e0⟩
      rw [ed] at this
      exact Nat.le_trans (bitN_mono this) (by omega)
    have sA : bitN A ≤ 200000 := by omega
    have sM2 : bitN M ≤ 200000 := by omega
    obtain ⟨hodd, rE1, rE2⟩ := bare_out ed (by show bitN A ≤ 1280; omega)
    have rE3 : -4294967296 ≤ E := by omega
    have rE4 : E ≤ 4294967296 := by omega
    obtain ⟨b, hb⟩ : ∃ b, bitN M = b := ⟨_, rfl⟩
    obtain ⟨ff, hff⟩ : ∃ f, fitsE E = f := ⟨_, rfl⟩
    obtain ⟨r, hr⟩ : ∃ r, (fitsE E && decide (bitN M * a1.natAbs ≤ 60000) && decide (E.natAbs * a1.natAbs ≤ 60000)) = r := ⟨_, rfl⟩
    have FT := Lib.hid (fun w v (h : Num w v A) (hT : Tab w) => Fits_n h hT h2.1 h2.2 ed h1.1 h1.2 hr)
    have LF := Lib.hid (fun w v (h : RdD w v (digs DD M)) => lfits_n (neg := n') h sM2 rE3 rE4 hr)
    have HF := Lib.hid (fun w a n k => RFits_n (w := w) (a := a) (n := n) (k := k) (neg := n') (E := E))
    have LB := Lib.hid (fun w v (h : RdD w v (digs DD M)) => lbits_n (neg := n') h sM2 rE3 rE4 hb)
    rw [hff] at HF
    obtain ⟨pn, pM, pE, k, PW, hcase⟩ := pow_way ed hodd h2 h1 hb hff hr
    have PW := Lib.hid PW
    have ed := Lib.hid ed
    clear hr hodd
    have hb' := Lib.hid hb
    clear hb hff
    go_enter Tryd.func3, Tryd.ntmps3
    go_upto_region 7 with
    (first
      | (go_at_call 7; (with_reducible refine (alive10_any (hT.below (below_alloc _ _))).mono ?_); rintro e w1 ⟨rfl, hb1⟩; have B1 := (below_alloc _ _).trans (hb1.mono (below_alloc _ _).size); have m1 := ((RA.below (below_alloc _ _))).below hb1; have T1 := ((hT.below (below_alloc _ _))).below hb1; have P1 := ((blk_new)).below hb1; obtain ⟨cP0_1, cP1_1, cP2_1, fP0_1, fP1_1, fP2_1, sP_1⟩ := P1.open3)
      | (go_at_call 8; (with_reducible refine (ROf_n m1 sA h2.1 h2.2 ed.out).mono ?_); rintro e w2 ⟨vn2, rfl, n2, hb2⟩; have B2 := B1.trans (hb2.mono B1.size); have m2 := m1.below hb2; have T2 := T1.below hb2; have P2 := P1.below hb2; clear m1 T1 P1; clear cP0_1 cP1_1 cP2_1 fP0_1 fP1_1 fP2_1 sP_1; obtain ⟨cP0_2, cP1_2, cP2_2, fP0_2, fP1_2, fP2_2, sP_2⟩ := P2.open3; obtain ⟨an2, kn2, rfl, -⟩ := n2.view; try simp only [List.length_nil] at n2)
      | (go_at_call 9; (with_reducible refine (PW.out _ _ (m2.below (below_alloc _ _)) (T2.below (below_alloc _ _))).mono ?_); rintro e w3 ⟨vp3, rfl, p3, hb3⟩; have hb3' := (below_a hb3); have B3 := B2.trans (hb3'.mono B2.size); have m3 := m2.below hb3'; have T3 := T2.below hb3'; have P3 := P2.below hb3'; have n3 := n2.below hb3'; clear m2 T2 P2 n2; have Q3 := blk_new.below hb3; clear cP0_2 cP1_2 cP2_2 fP0_2 fP1_2 fP2_2 sP_2; obtain ⟨cP0_3, cP1_3, cP2_3, fP0_3, fP1_3, fP2_3, sP_3⟩ := P3.open3; obtain ⟨cQ0_3, cQ1_3, cQ2_3, fQ0_3, fQ1_3, fQ2_3, sQ_3⟩ := Q3.open3; obtain ⟨ap3, kp3, rfl, -⟩ := p3.view; try simp only [List.length_nil] at p3)
      | fail)
    have hAR := below_alloc w3 (.cells #[.bool pn, .slice ap3 (digs BB pM).length kp3, .int .i64 pE] 30 (0, 0))
    have R4 : Blk (w3.alloc (.cells #[.bool pn, .slice ap3 (digs BB pM).length kp3, .int .i64 pE] 30 (0, 0))) w3.heap.size _ := blk_new
    have m4 := m3.below hAR; have T4 := T3.below hAR; have n4 := n3.below hAR; have p4 := p3.below hAR
    have B4 := B3.trans (hAR.mono B3.size)
    have P4 := P3.below hAR; have Q4 := Q3.below hAR
    clear cP0_3 cP1_3 cP2_3 fP0_3 fP1_3 fP2_3 sP_3 cQ0_3 cQ1_3 cQ2_3 fQ0_3 fQ1_3 fQ2_3 sQ_3 P3 Q3 m3 n3 p3 T3 B3 hAR
    generalize (w3.alloc (.cells #[.bool pn, .slice ap3 (digs BB pM).length kp3, .int .i64 pE] 30 (0, 0))) = w4 at *
    have hD : Below w4.heap.size w4 w4.drew := below_drewN (Below.refl _ _) 1
    have m5 := m4.below hD; have T5 := T4.below hD; have n5 := n4.below hD; have p5 := p4.below hD
    have B5 := B4.trans (hD.mono B4.size)
    have P5 := P4.below hD; have Q5 := Q4.below hD; have R5 := R4.below hD
    obtain ⟨cP0, cP1, cP2, fP0, fP1, fP2, sP⟩ := P5.open3
    obtain ⟨cQ0, cQ1, cQ2, fQ0, fQ1, fQ2, sQ⟩ := Q5.open3
    clear m4 n4 p4 T4 B4 P4 Q4 R4 hD
    generalize w2.heap.size = bn at *
    generalize w3.heap.size = bp at *
    go_region_held3 (fun w' => (w'.cell? ⟨w.heap.size, 0, none⟩ = some (.bool b0) ∧ w'.cell? ⟨w.heap.size, 1, none⟩ = some (.slice a0 len0 cap0) ∧ w'.cell? ⟨w.heap.size, 2, none⟩ = some (.int .i64 e0)) ∧ w'.cell? ⟨bn, 0, none⟩ = some (.bool n') ∧ w'.cell? ⟨bn, 1, none⟩ = some (.slice an2 (digs DD M).length kn2) ∧ w'.cell? ⟨bn, 2, none⟩ = some (.int .i64 E)) (first | with_reducible exact ⟨⟨cP0, cP1, cP2⟩, cQ0, cQ1, cQ2⟩ | with_reducible exact ⟨⟨cP0_6, cP1_6, cP2_6⟩, cQ0_6, cQ1_6, cQ2_6⟩ | with_reducible exact ⟨⟨cP0_7, cP1_7, cP2_7⟩, cQ0_7, cQ1_7, cQ2_7⟩)
    (first
      | (go_at_call 10; (with_reducible refine (FT.out _ _ m5 T5).mono ?_); rintro e w6 ⟨rfl, hb6⟩; have B6 := B5.trans (hb6.mono B5.size); have m6 := m5.below hb6; have T6 := T5.below hb6; have n6 := n5.below hb6; have p6 := p5.below hb6; have P6 := P5.below hb6; have Q6 := Q5.below hb6; have R6 := R5.below hb6; clear m5 T5 n5 p5 P5 Q5 R5; obtain ⟨cP0_6, cP1_6, cP2_6, fP0_6, fP1_6, fP2_6, sP_6⟩ := P6.open3; obtain ⟨cQ0_6, cQ1_6, cQ2_6, fQ0_6, fQ1_6, fQ2_6, sQ_6⟩ := Q6.open3; obtain ⟨cR0_6, cR1_6, cR2_6, fR0_6, fR1_6, fR2_6, sR_6⟩ := R6.open3)
      | (go_at_call 11; (with_reducible refine (LF.out _ _ n6).mono ?_); rintro e w7 ⟨rfl, hb7⟩; have B7 := B6.trans (hb7.mono B6.size); have m7 := m6.below hb7; have T7 := T6.below hb7; have n7 := n6.below hb7; have p7 := p6.below hb7; have P7 := P6.below hb7; have Q7 := Q6.below hb7; have R7 := R6.below hb7; clear m6 T6 n6 p6 P6 Q6 R6; clear cP0_6 cP1_6 cP2_6 fP0_6 fP1_6 fP2_6 sP_6; obtain ⟨cP0_7, cP1_7, cP2_7, fP0_7, fP1_7, fP2_7, sP_7⟩ := P7.open3; clear cQ0_6 cQ1_6 cQ2_6 fQ0_6 fQ1_6 fQ2_6 sQ_6; obtain ⟨cQ0_7, cQ1_7, cQ2_7, fQ0_7, fQ1_7, fQ2_7, sQ_7⟩ := Q7.open3; clear cR0_6 cR1_6 cR2_6 fR0_6 fR1_6 fR2_6 sR_6; obtain ⟨cR0_7, cR1_7, cR2_7, fR0_7, fR1_7, fR2_7, sR_7⟩ := R7.open3)
      | fail)
    rcases hcase with ⟨hbad, rfl, rfl⟩ | ⟨rfl, hpos, rfl, rfl, rfl⟩ | ⟨K, rfl, rfl, rfl, rfl, sb1, sb2, hway⟩
    · rw [digs_zero] at *
      rcases hbad with rfl | hbad
      · go_wp2_with
        (first
          | (go_at_call 12; (with_reducible refine (HF.out _ _ _ _).mono ?_); rintro e w8 ⟨rfl, hb8⟩; have B8 := B7.trans (hb8.mono B7.size); have m8 := m7.below hb8; have T8 := T7.below hb8; have n8 := n7.below hb8; have p8 := p7.below hb8; have P8 := P7.below hb8; have Q8 := Q7.below hb8; have R8 := R7.below hb8; clear m7 T7 n7 p7 P7 Q7 R7; obtain ⟨cP0_8, cP1_8, cP2_8, fP0_8, fP1_8, fP2_8, sP_8⟩ := P8.open3; obtain ⟨cQ0_8, cQ1_8, cQ2_8, fQ0_8, fQ1_8, fQ2_8, sQ_8⟩ := Q8.open3; obtain ⟨cR0_8, cR1_8, cR2_8, fR0_8, fR1_8, fR2_8, sR_8⟩ := R8.open3)
          | fail)
        all_goals
          go_ret
          exact ⟨rfl, by assumption⟩
      · have hbd : decide (a1 < 0) = true := decide_eq_true hbad
        cases ff
        all_goals
          go_wp2_with
          (first
            | (go_at_call 12; (with_reducible refine (HF.out _ _ _ _).mono ?_); rintro e w8 ⟨rfl, hb8⟩; have B8 := B7.trans (hb8.mono B7.size); have m8 := m7.below hb8; have T8 := T7.below hb8; have n8 := n7.below hb8; have p8 := p7.below hb8; have P8 := P7.below hb8; have Q8 := Q7.below hb8; have R8 := R7.below hb8; clear m7 T7 n7 p7 P7 Q7 R7; obtain ⟨cP0_8, cP1_8, cP2_8, fP0_8, fP1_8, fP2_8, sP_8⟩ := P8.open3; obtain ⟨cQ0_8, cQ1_8, cQ2_8, fQ0_8, fQ1_8, fQ2_8, sQ_8⟩ := Q8.open3; obtain ⟨cR0_8, cR1_8, cR2_8, fR0_8, fR1_8, fR2_8, sR_8⟩ := R8.open3)
            | fail)
        all_goals
          go_ret
          exact ⟨rfl, by assumption⟩
    · rw [digs_zero] at *
      have hbd : decide (a1 < 0) = false := decide_eq_false (by omega)
      go_wp2_with
        (first
          | (go_at_call 12; (with_reducible refine (HF.out _ _ _ _).mono ?_); rintro e w8 ⟨rfl, hb8⟩; have B8 := B7.trans (hb8.mono B7.size); have m8 := m7.below hb8; have T8 := T7.below hb8; have n8 := n7.below hb8; have p8 := p7.below hb8; have P8 := P7.below hb8; have Q8 := Q7.below hb8; have R8 := R7.below hb8; clear m7 T7 n7 p7 P7 Q7 R7; obtain ⟨cP0_8, cP1_8, cP2_8, fP0_8, fP1_8, fP2_8, sP_8⟩ := P8.open3; obtain ⟨cQ0_8, cQ1_8, cQ2_8, fQ0_8, fQ1_8, fQ2_8, sQ_8⟩ := Q8.open3; obtain ⟨cR0_8, cR1_8, cR2_8, fR0_8, fR1_8, fR2_8, sR_8⟩ := R8.open3)
          | (go_at_call 11; (with_reducible refine (LF.out _ _ n8).mono ?_); rintro e w9 ⟨rfl, hb9⟩; have B9 := B8.trans (hb9.mono B8.size); have m9 := m8.below hb9; have T9 := T8.below hb9; have n9 := n8.below hb9; have p9 := p8.below hb9; have P9 := P8.below hb9; have Q9 := Q8.below hb9; have R9 := R8.below hb9; clear m8 T8 n8 p8 P8 Q8 R8; clear cP0_8 cP1_8 cP2_8 fP0_8 fP1_8 fP2_8 sP_8; obtain ⟨cP0_9, cP1_9, cP2_9, fP0_9, fP1_9, fP2_9, sP_9⟩ := P9.open3; clear cQ0_8 cQ1_8 cQ2_8 fQ0_8 fQ1_8 fQ2_8 sQ_8; obtain ⟨cQ0_9, cQ1_9, cQ2_9, fQ0_9, fQ1_9, fQ2_9, sQ_9⟩ := Q9.open3; clear cR0_8 cR1_8 cR2_8 fR0_8 fR1_8 fR2_8 sR_8; obtain ⟨cR0_9, cR1_9, cR2_9, fR0_9, fR1_9, fR2_9, sR_9⟩ := R9.open3)
          | fail)
      all_goals
        go_ret
        exact ⟨rfl, by assumption⟩
    · have hbd : decide ((K : Int) < 0) = false := decide_eq_false (by omega)
      by_cases hb1 : 1 < b
      · have db1 : decide (1 < (b : Int)) = true := decide_eq_true (by omega)
        have db0 : (b : Int) ≠ 0 := by omega
        have db2 : ((b : Int) == 0) = false := beq_false_of_ne db0
        obtain ⟨hM, hpn, hP, ht⟩ : M % 2 = 1 ∧ (n' && decide (K % 2 = 1)) = pn ∧ M ^ K = pM ∧ E * (K : Int) = pE := by
          have hMp : M ≠ 0 := fun h => by have := hb'.out; rw [h, bitN_zero] at this; omega
          rcases hway with ⟨h, -, -⟩ | ⟨h | ⟨h, -, -, -⟩, hpn, hP, ht⟩
          · exact absurd h hMp
          · exact ⟨h, hpn, hP, ht⟩
          · exact absurd h hMp
        have htb : pE.natAbs ≤ 60000 := by rw [← ht, Int.natAbs_mul, Int.natAbs_natCast]; exact sb2
        have hPo : pM % 2 = 1 := by rw [← hP]; exact odd_pow hM K
        have sP3 : bitN pM ≤ 200000 := by
          have := bitN_pow_le M K
          rw [hP, hb'.out] at this; omega
        have hM0 : M ≠ 0 := by omega
        have eb2 : bareD ⟨pn, pM, pE⟩ = ⟨pn, pM, pE⟩ := bareD_odd hPo (by omega) (by omega)
        have ft : fitsE pE = true := by unfold fitsE; rw [decide_eq_true (by omega), decide_eq_true (by omega)]; rfl
        have RP := Lib.hid (fun w v (h : RdD w v (digs DD M)) => by
          have := RPow_n (neg := n') (E := E) h hP ht (by rw [hb'.out]; exact sb1) (by omega) htb (by omega) hM0
          rw [hpn] at this; exact this)
        have TO := Lib.hid (fun w v (h : RdD w v (digs DD pM)) => RTo_n h sP3 (by omega) (by omega) eb2 ft)
        have SM := Lib.hid (fun w v u (h : RdN w v (digs BB pM)) (k : RdN w u (digs BB pM)) => RSame_n (neg := pn) (neg2 := pn) (E := pE) (E2 := pE) h k (decide_eq_true ⟨rfl, rfl, rfl⟩))
        clear eb2
        have hsn : digs DD M ≠ [] := fun e => by have := (digs_nil_iff DD_two _).1 e; omega
        have hsi : ((digs DD M).length : Int) ≠ 0 := by have := List.length_pos_iff.2 hsn; omega
        have hsb : (((digs DD M).length : Int) == 0) = false := beq_false_of_ne hsi
        go_wp2_with
                  (first
                    | (go_at_call 12; (with_reducible refine (HF.out _ _ _ _).mono ?_); rintro e w8 ⟨rfl, hb8⟩; have B8 := B7.trans (hb8.mono B7.size); have m8 := m7.below hb8; have T8 := T7.below hb8; have n8 := n7.below hb8; have p8 := p7.below hb8; have P8 := P7.below hb8; have Q8 := Q7.below hb8; have R8 := R7.below hb8; clear m7 T7 n7 p7 P7 Q7 R7; obtain ⟨cP0_8, cP1_8, cP2_8, fP0_8, fP1_8, fP2_8, sP_8⟩ := P8.open3; obtain ⟨cQ0_8, cQ1_8, cQ2_8, fQ0_8, fQ1_8, fQ2_8, sQ_8⟩ := Q8.open3; obtain ⟨cR0_8, cR1_8, cR2_8, fR0_8, fR1_8, fR2_8, sR_8⟩ := R8.open3)
                    | (go_at_call 11; (with_reducible refine (LF.out _ _ n8).mono ?_); rintro e w9 ⟨rfl, hb9⟩; have B9 := B8.trans (hb9.mono B8.size); have m9 := m8.below hb9; have T9 := T8.below hb9; have n9 := n8.below hb9; have p9 := p8.below hb9; have P9 := P8.below hb9; have Q9 := Q8.below hb9; have R9 := R8.below hb9; clear m8 T8 n8 p8 P8 Q8 R8; clear cP0_8 cP1_8 cP2_8 fP0_8 fP1_8 fP2_8 sP_8; obtain ⟨cP0_9, cP1_9, cP2_9, fP0_9, fP1_9, fP2_9, sP_9⟩ := P9.open3; clear cQ0_8 cQ1_8 cQ2_8 fQ0_8 fQ1_8 fQ2_8 sQ_8; obtain ⟨cQ0_9, cQ1_9, cQ2_9, fQ0_9, fQ1_9, fQ2_9, sQ_9⟩ := Q9.open3; clear cR0_8 cR1_8 cR2_8 fR0_8 fR1_8 fR2_8 sR_8; obtain ⟨cR0_9, cR1_9, cR2_9, fR0_9, fR1_9, fR2_9, sR_9⟩ := R9.open3)
                    | (go_at_call 13; (with_reducible refine (LB.out _ _ n9).mono ?_); rintro e w10 ⟨rfl, hb10⟩; have B10 := B9.trans (hb10.mono B9.size); have m10 := m9.below hb10; have T10 := T9.below hb10; have n10 := n9.below hb10; have p10 := p9.below hb10; have P10 := P9.below hb10; have Q10 := Q9.below hb10; have R10 := R9.below hb10; clear m9 T9 n9 p9 P9 Q9 R9; clear cP0_9 cP1_9 cP2_9 fP0_9 fP1_9 fP2_9 sP_9; obtain ⟨cP0_10, cP1_10, cP2_10, fP0_10, fP1_10, fP2_10, sP_10⟩ := P10.open3; clear cQ0_9 cQ1_9 cQ2_9 fQ0_9 fQ1_9 fQ2_9 sQ_9; obtain ⟨cQ0_10, cQ1_10, cQ2_10, fQ0_10, fQ1_10, fQ2_10, sQ_10⟩ := Q10.open3; clear cR0_9 cR1_9 cR2_9 fR0_9 fR1_9 fR2_9 sR_9; obtain ⟨cR0_10, cR1_10, cR2_10, fR0_10, fR1_10, fR2_10, sR_10⟩ := R10.open3)
                    | (go_at_call 13; (with_reducible refine (LB.out _ _ n10).mono ?_); rintro e w11 ⟨rfl, hb11⟩; have B11 := B10.trans (hb11.mono B10.size); have m11 := m10.below hb11; have T11 := T10.below hb11; have n11 := n10.below hb11; have p11 := p10.below hb11; have P11 := P10.below hb11; have Q11 := Q10.below hb11; have R11 := R10.below hb11; clear m10 T10 n10 p10 P10 Q10 R10; clear cP0_10 cP1_10 cP2_10 fP0_10 fP1_10 fP2_10 sP_10; obtain ⟨cP0_11, cP1_11, cP2_11, fP0_11, fP1_11, fP2_11, sP_11⟩ := P11.open3; clear cQ0_10 cQ1_10 cQ2_10 fQ0_10 fQ1_10 fQ2_10 sQ_10; obtain ⟨cQ0_11, cQ1_11, cQ2_11, fQ0_11, fQ1_11, fQ2_11, sQ_11⟩ := Q11.open3; clear cR0_10 cR1_10 cR2_10 fR0_10 fR1_10 fR2_10 sR_10; obtain ⟨cR0_11, cR1_11, cR2_11, fR0_11, fR1_11, fR2_11, sR_11⟩ := R11.open3)
                    | (go_at_call 13; (with_reducible refine (LB.out _ _ n11).mono ?_); rintro e w12 ⟨rfl, hb12⟩; have B12 := B11.trans (hb12.mono B11.size); have m12 := m11.below hb12; have T12 := T11.below hb12; have n12 := n11.below hb12; have p12 := p11.below hb12; have P12 := P11.below hb12; have Q12 := Q11.below hb12; have R12 := R11.below hb12; clear m11 T11 n11 p11 P11 Q11 R11; clear cP0_11 cP1_11 cP2_11 fP0_11 fP1_11 fP2_11 sP_11; obtain ⟨cP0_12, cP1_12, cP2_12, fP0_12, fP1_12, fP2_12, sP_12⟩ := P12.open3; clear cQ0_11 cQ1_11 cQ2_11 fQ0_11 fQ1_11 fQ2_11 sQ_11; obtain ⟨cQ0_12, cQ1_12, cQ2_12, fQ0_12, fQ1_12, fQ2_12, sQ_12⟩ := Q12.open3; clear cR0_11 cR1_11 cR2_11 fR0_11 fR1_11 fR2_11 sR_11; obtain ⟨cR0_12, cR1_12, cR2_12, fR0_12, fR1_12, fR2_12, sR_12⟩ := R12.open3)
                    | (go_at_call 16; (with_reducible refine (RP.out _ _ n12).mono ?_); rintro e w13 ⟨vq13, rfl, q13, hb13⟩; have B13 := B12.trans (hb13.mono B12.size); have m13 := m12.below hb13; have T13 := T12.below hb13; have n13 := n12.below hb13; have p13 := p12.below hb13; have P13 := P12.below hb13; have Q13 := Q12.below hb13; have R13 := R12.below hb13; clear m12 T12 n12 p12 P12 Q12 R12; clear cP0_12 cP1_12 cP2_12 fP0_12 fP1_12 fP2_12 sP_12; obtain ⟨cP0_13, cP1_13, cP2_13, fP0_13, fP1_13, fP2_13, sP_13⟩ := P13.open3; clear cQ0_12 cQ1_12 cQ2_12 fQ0_12 fQ1_12 fQ2_12 sQ_12; obtain ⟨cQ0_13, cQ1_13, cQ2_13, fQ0_13, fQ1_13, fQ2_13, sQ_13⟩ := Q13.open3; clear cR0_12 cR1_12 cR2_12 fR0_12 fR1_12 fR2_12 sR_12; obtain ⟨cR0_13, cR1_13, cR2_13, fR0_13, fR1_13, fR2_13, sR_13⟩ := R13.open3; obtain ⟨aq13, kq13, rfl, -⟩ := q13.view; try simp only [List.length_nil] at q13)
                    | (go_at_call 14; (with_reducible refine (TO.out _ _ q13).mono ?_); rintro e w14 ⟨vx14, rfl, x14, hb14⟩; have B14 := B13.trans (hb14.mono B13.size); have m14 := m13.below hb14; have T14 := T13.below hb14; have n14 := n13.below hb14; have p14 := p13.below hb14; have P14 := P13.below hb14; have Q14 := Q13.below hb14; have R14 := R13.below hb14; have q14 := q13.below hb14; clear m13 T13 n13 p13 P13 Q13 R13 q13; clear cP0_13 cP1_13 cP2_13 fP0_13 fP1_13 fP2_13 sP_13; obtain ⟨cP0_14, cP1_14, cP2_14, fP0_14, fP1_14, fP2_14, sP_14⟩ := P14.open3; clear cQ0_13 cQ1_13 cQ2_13 fQ0_13 fQ1_13 fQ2_13 sQ_13; obtain ⟨cQ0_14, cQ1_14, cQ2_14, fQ0_14, fQ1_14, fQ2_14, sQ_14⟩ := Q14.open3; clear cR0_13 cR1_13 cR2_13 fR0_13 fR1_13 fR2_13 sR_13; obtain ⟨cR0_14, cR1_14, cR2_14, fR0_14, fR1_14, fR2_14, sR_14⟩ := R14.open3; obtain ⟨ax14, kx14, rfl, -⟩ := x14.view; try simp only [List.length_nil] at x14)
                    | (go_at_call 15; (with_reducible refine (SM.out _ _ _ (p14.below (below_alloc _ _)) (x14.below (below_alloc _ _))).mono ?_); rintro e w15 ⟨rfl, hb15⟩; have hb15' := (below_a hb15); have B15 := B14.trans (hb15'.mono B14.size); have m15 := m14.below hb15'; have T15 := T14.below hb15'; have n15 := n14.below hb15'; have p15 := p14.below hb15'; have P15 := P14.below hb15'; have Q15 := Q14.below hb15'; have R15 := R14.below hb15'; have q15 := q14.below hb15'; have x15 := x14.below hb15'; clear m14 T14 n14 p14 P14 Q14 R14 q14 x14; clear cP0_14 cP1_14 cP2_14 fP0_14 fP1_14 fP2_14 sP_14; obtain ⟨cP0_15, cP1_15, cP2_15, fP0_15, fP1_15, fP2_15, sP_15⟩ := P15.open3; clear cQ0_14 cQ1_14 cQ2_14 fQ0_14 fQ1_14 fQ2_14 sQ_14; obtain ⟨cQ0_15, cQ1_15, cQ2_15, fQ0_15, fQ1_15, fQ2_15, sQ_15⟩ := Q15.open3; clear cR0_14 cR1_14 cR2_14 fR0_14 fR1_14 fR2_14 sR_14; obtain ⟨cR0_15, cR1_15, cR2_15, fR0_15, fR1_15, fR2_15, sR_15⟩ := R15.open3)
                    | fail)
        all_goals
          go_ret
          exact ⟨rfl, by assumption⟩
      · have db1 : decide (1 < (b : Int)) = false := decide_eq_false (by omega)
        rcases hway with ⟨rfl, hK, rfl⟩ | ⟨hM, hpn, hP, ht⟩
        · have e0 := hb'.out
          rw [bitN_zero] at e0
          subst e0
          have dk : decide (0 < (K : Int)) = true := decide_eq_true (by omega)
          have dkn : decide (0 < K) = true := decide_eq_true (by omega)
          rw [digs_zero DD] at *
          rw [digs_zero BB] at *
          rw [List.length_nil] at *
          go_wp2_with
          (first
            | (go_at_call 12; (with_reducible refine (HF.out _ _ _ _).mono ?_); rintro e w8 ⟨rfl, hb8⟩; have B8 := B7.trans (hb8.mono B7.size); have m8 := m7.below hb8; have T8 := T7.below hb8; have n8 := n7.below hb8; have p8 := p7.below hb8; have P8 := P7.below hb8; have Q8 := Q7.below hb8; have R8 := R7.below hb8; clear m7 T7 n7 p7 P7 Q7 R7; obtain ⟨cP0_8, cP1_8, cP2_8, fP0_8, fP1_8, fP2_8, sP_8⟩ := P8.open3; obtain ⟨cQ0_8, cQ1_8, cQ2_8, fQ0_8, fQ1_8, fQ2_8, sQ_8⟩ := Q8.open3; obtain ⟨cR0_8, cR1_8, cR2_8, fR0_8, fR1_8, fR2_8, sR_8⟩ := R8.open3)
            | (go_at_call 11; (with_reducible refine (LF.out _ _ n8).mono ?_); rintro e w9 ⟨rfl, hb9⟩; have B9 := B8.trans (hb9.mono B8.size); have m9 := m8.below hb9; have T9 := T8.below hb9; have n9 := n8.below hb9; have p9 := p8.below hb9; have P9 := P8.below hb9; have Q9 := Q8.below hb9; have R9 := R8.below hb9; clear m8 T8 n8 p8 P8 Q8 R8; clear cP0_8 cP1_8 cP2_8 fP0_8 fP1_8 fP2_8 sP_8; obtain ⟨cP0_9, cP1_9, cP2_9, fP0_9, fP1_9, fP2_9, sP_9⟩ := P9.open3; clear cQ0_8 cQ1_8 cQ2_8 fQ0_8 fQ1_8 fQ2_8 sQ_8; obtain ⟨cQ0_9, cQ1_9, cQ2_9, fQ0_9, fQ1_9, fQ2_9, sQ_9⟩ := Q9.open3; clear cR0_8 cR1_8 cR2_8 fR0_8 fR1_8 fR2_8 sR_8; obtain ⟨cR0_9, cR1_9, cR2_9, fR0_9, fR1_9, fR2_9, sR_9⟩ := R9.open3)
            | (go_at_call 13; (with_reducible refine (LB.out _ _ n9).mono ?_); rintro e w10 ⟨rfl, hb10⟩; have B10 := B9.trans (hb10.mono B9.size); have m10 := m9.below hb10; have T10 := T9.below hb10; have n10 := n9.below hb10; have p10 := p9.below hb10; have P10 := P9.below hb10; have Q10 := Q9.below hb10; have R10 := R9.below hb10; clear m9 T9 n9 p9 P9 Q9 R9; clear cP0_9 cP1_9 cP2_9 fP0_9 fP1_9 fP2_9 sP_9; obtain ⟨cP0_10, cP1_10, cP2_10, fP0_10, fP1_10, fP2_10, sP_10⟩ := P10.open3; clear cQ0_9 cQ1_9 cQ2_9 fQ0_9 fQ1_9 fQ2_9 sQ_9; obtain ⟨cQ0_10, cQ1_10, cQ2_10, fQ0_10, fQ1_10, fQ2_10, sQ_10⟩ := Q10.open3; clear cR0_9 cR1_9 cR2_9 fR0_9 fR1_9 fR2_9 sR_9; obtain ⟨cR0_10, cR1_10, cR2_10, fR0_10, fR1_10, fR2_10, sR_10⟩ := R10.open3)
            | (go_at_call 13; (with_reducible refine (LB.out _ _ n10).mono ?_); rintro e w11 ⟨rfl, hb11⟩; have B11 := B10.trans (hb11.mono B10.size); have m11 := m10.below hb11; have T11 := T10.below hb11; have n11 := n10.below hb11; have p11 := p10.below hb11; have P11 := P10.below hb11; have Q11 := Q10.below hb11; have R11 := R10.below hb11; clear m10 T10 n10 p10 P10 Q10 R10; clear cP0_10 cP1_10 cP2_10 fP0_10 fP1_10 fP2_10 sP_10; obtain ⟨cP0_11, cP1_11, cP2_11, fP0_11, fP1_11, fP2_11, sP_11⟩ := P11.open3; clear cQ0_10 cQ1_10 cQ2_10 fQ0_10 fQ1_10 fQ2_10 sQ_10; obtain ⟨cQ0_11, cQ1_11, cQ2_11, fQ0_11, fQ1_11, fQ2_11, sQ_11⟩ := Q11.open3; clear cR0_10 cR1_10 cR2_10 fR0_10 fR1_10 fR2_10 sR_10; obtain ⟨cR0_11, cR1_11, cR2_11, fR0_11, fR1_11, fR2_11, sR_11⟩ := R11.open3)
            | fail)
          all_goals
            go_ret
            exact ⟨rfl, by assumption⟩
        · have hP1 : M ^ K = 1 := by
            rcases hM with hM | ⟨h, h', -⟩
            · have : M = 1 := by
                have := bitN_lt M
                rw [hb'.out] at this
                have h2 : 2 ^ b ≤ 2 ^ 1 := Nat.pow_le_pow_right (by omega) (by omega)
                omega
              rw [this, Nat.one_pow]
            · rw [h', Nat.pow_zero]
          have hpM : pM = 1 := by rw [← hP, hP1]
          clear hP hP1
          subst hpM
          have htb : pE.natAbs ≤ 60000 := by rw [← ht, Int.natAbs_mul, Int.natAbs_natCast]; exact sb2
          have hwt : wrap64 pE = pE := by unfold wrap64; omega
          obtain ⟨od, hod2⟩ : ∃ od, decide (K % 2 = 1) = od := ⟨_, rfl⟩
          have hod : (Int.tmod (K : Int) 2 == 1) = od := by
            rw [← hod2, Int.tmod_eq_emod_of_nonneg (by omega)]
            by_cases h : K % 2 = 1
            · rw [decide_eq_true h, show (K : Int) % 2 = 1 by omega]; rfl
            · rw [decide_eq_false h, show (K : Int) % 2 = 0 by omega]; rfl
          have hodi : ((K : Int) % 2 == 1) = od := by rw [← hod, Int.tmod_eq_emod_of_nonneg (by omega)]
          rw [hod2] at hpn
          clear hod2
          have eb2 : bareD ⟨pn, 1, pE⟩ = ⟨pn, 1, pE⟩ := bareD_odd rfl (by omega) (by omega)
          have ft : fitsE pE = true := by unfold fitsE; rw [decide_eq_true (by omega), decide_eq_true (by omega)]; rfl
          have d1 : digs DD 1 = [1] := by rw [digs_pos DD_two (by omega)]; rfl
          have TO := Lib.hid (fun w v (h : RdD w v [1]) => RTo_n (M := 1) (by rw [d1]; exact h) (by rw [bitN_one]; omega) (by omega) (by omega) eb2 ft)
          have SM := Lib.hid (fun w v u (h : RdN w v (digs BB 1)) (k : RdN w u (digs BB 1)) => RSame_n (neg := pn) (neg2 := pn) (E := pE) (E2 := pE) h k (decide_eq_true ⟨rfl, rfl, rfl⟩))
          clear eb2 d1
          have hways : ((((digs DD M).length : Int) == 0) = false) ∨ ((((digs DD M).length : Int) == 0) = true) ∧ decide (0 < (K : Int)) = false ∧ decide (0 < K) = false := by
            rcases hM with hM | ⟨h, h', -, -⟩
            · have hsn : digs DD M ≠ [] := fun e => by have := (digs_nil_iff DD_two _).1 e; omega
              exact .inl (beq_false_of_ne (by have := List.length_pos_iff.2 hsn; omega))
            · exact .inr ⟨by rw [h, digs_zero]; rfl, decide_eq_false (by omega), decide_eq_false (by omega)⟩
          clear hM
          rcases hways with hsb | ⟨hsb, dk, dkn⟩
          · cases n'
            · rw [Bool.false_and] at hpn
              subst hpn
              go_wp2_with
              (first
                | (go_at_call 12; (with_reducible refine (HF.out _ _ _ _).mono ?_); rintro e w8 ⟨rfl, hb8⟩; have B8 := B7.trans (hb8.mono B7.size); have m8 := m7.below hb8; have T8 := T7.below hb8; have n8 := n7.below hb8; have p8 := p7.below hb8; have P8 := P7.below hb8; have Q8 := Q7.below hb8; have R8 := R7.below hb8; clear m7 T7 n7 p7 P7 Q7 R7; obtain ⟨cP0_8, cP1_8, cP2_8, fP0_8, fP1_8, fP2_8, sP_8⟩ := P8.open3; obtain ⟨cQ0_8, cQ1_8, cQ2_8, fQ0_8, fQ1_8, fQ2_8, sQ_8⟩ := Q8.open3; obtain ⟨cR0_8, cR1_8, cR2_8, fR0_8, fR1_8, fR2_8, sR_8⟩ := R8.open3)
                | (go_at_call 11; (with_reducible refine (LF.out _ _ n8).mono ?_); rintro e w9 ⟨rfl, hb9⟩; have B9 := B8.trans (hb9.mono B8.size); have m9 := m8.below hb9; have T9 := T8.below hb9; have n9 := n8.below hb9; have p9 := p8.below hb9; have P9 := P8.below hb9; have Q9 := Q8.below hb9; have R9 := R8.below hb9; clear m8 T8 n8 p8 P8 Q8 R8; clear cP0_8 cP1_8 cP2_8 fP0_8 fP1_8 fP2_8 sP_8; obtain ⟨cP0_9, cP1_9, cP2_9, fP0_9, fP1_9, fP2_9, sP_9⟩ := P9.open3; clear cQ0_8 cQ1_8 cQ2_8 fQ0_8 fQ1_8 fQ2_8 sQ_8; obtain ⟨cQ0_9, cQ1_9, cQ2_9, fQ0_9, fQ1_9, fQ2_9, sQ_9⟩ := Q9.open3; clear cR0_8 cR1_8 cR2_8 fR0_8 fR1_8 fR2_8 sR_8; obtain ⟨cR0_9, cR1_9, cR2_9, fR0_9, fR1_9, fR2_9, sR_9⟩ := R9.open3)
                | (go_at_call 13; (with_reducible refine (LB.out _ _ n9).mono ?_); rintro e w10 ⟨rfl, hb10⟩; have B10 := B9.trans (hb10.mono B9.size); have m10 := m9.below hb10; have T10 := T9.below hb10; have n10 := n9.below hb10; have p10 := p9.below hb10; have P10 := P9.below hb10; have Q10 := Q9.below hb10; have R10 := R9.below hb10; clear m9 T9 n9 p9 P9 Q9 R9; clear cP0_9 cP1_9 cP2_9 fP0_9 fP1_9 fP2_9 sP_9; obtain ⟨cP0_10, cP1_10, cP2_10, fP0_10, fP1_10, fP2_10, sP_10⟩ := P10.open3; clear cQ0_9 cQ1_9 cQ2_9 fQ0_9 fQ1_9 fQ2_9 sQ_9; obtain ⟨cQ0_10, cQ1_10, cQ2_10, fQ0_10, fQ1_10, fQ2_10, sQ_10⟩ := Q10.open3; clear cR0_9 cR1_9 cR2_9 fR0_9 fR1_9 fR2_9 sR_9; obtain ⟨cR0_10, cR1_10, cR2_10, fR0_10, fR1_10, fR2_10, sR_10⟩ := R10.open3)
                | (go_at_call 13; (with_reducible refine (LB.out _ _ n10).mono ?_); rintro e w11 ⟨rfl, hb11⟩; have B11 := B10.trans (hb11.mono B10.size); have m11 := m10.below hb11; have T11 := T10.below hb11; have n11 := n10.below hb11; have p11 := p10.below hb11; have P11 := P10.below hb11; have Q11 := Q10.below hb11; have R11 := R10.below hb11; clear m10 T10 n10 p10 P10 Q10 R10; clear cP0_10 cP1_10 cP2_10 fP0_10 fP1_10 fP2_10 sP_10; obtain ⟨cP0_11, cP1_11, cP2_11, fP0_11, fP1_11, fP2_11, sP_11⟩ := P11.open3; clear cQ0_10 cQ1_10 cQ2_10 fQ0_10 fQ1_10 fQ2_10 sQ_10; obtain ⟨cQ0_11, cQ1_11, cQ2_11, fQ0_11, fQ1_11, fQ2_11, sQ_11⟩ := Q11.open3; clear cR0_10 cR1_10 cR2_10 fR0_10 fR1_10 fR2_10 sR_10; obtain ⟨cR0_11, cR1_11, cR2_11, fR0_11, fR1_11, fR2_11, sR_11⟩ := R11.open3)
                | (go_at_call 14; (with_reducible refine (TO.out _ _ ?_).mono ?_); (exact rd_one (heap_alloc_new _ _) trivial); rintro e w12 ⟨vx12, rfl, x12, hb12⟩; have hb12' := (below_a hb12); have B12 := B11.trans (hb12'.mono B11.size); have m12 := m11.below hb12'; have T12 := T11.below hb12'; have n12 := n11.below hb12'; have p12 := p11.below hb12'; have P12 := P11.below hb12'; have Q12 := Q11.below hb12'; have R12 := R11.below hb12'; clear m11 T11 n11 p11 P11 Q11 R11; clear cP0_11 cP1_11 cP2_11 fP0_11 fP1_11 fP2_11 sP_11; obtain ⟨cP0_12, cP1_12, cP2_12, fP0_12, fP1_12, fP2_12, sP_12⟩ := P12.open3; clear cQ0_11 cQ1_11 cQ2_11 fQ0_11 fQ1_11 fQ2_11 sQ_11; obtain ⟨cQ0_12, cQ1_12, cQ2_12, fQ0_12, fQ1_12, fQ2_12, sQ_12⟩ := Q12.open3; clear cR0_11 cR1_11 cR2_11 fR0_11 fR1_11 fR2_11 sR_11; obtain ⟨cR0_12, cR1_12, cR2_12, fR0_12, fR1_12, fR2_12, sR_12⟩ := R12.open3; obtain ⟨ax12, kx12, rfl, -⟩ := x12.view; try simp only [List.length_nil] at x12)
                | (go_at_call 15; (with_reducible refine (SM.out _ _ _ (p12.below (below_alloc _ _)) (x12.below (below_alloc _ _))).mono ?_); rintro e w13 ⟨rfl, hb13⟩; have hb13' := (below_a hb13); have B13 := B12.trans (hb13'.mono B12.size); have m13 := m12.below hb13'; have T13 := T12.below hb13'; have n13 := n12.below hb13'; have p13 := p12.below hb13'; have P13 := P12.below hb13'; have Q13 := Q12.below hb13'; have R13 := R12.below hb13'; have x13 := x12.below hb13'; clear m12 T12 n12 p12 P12 Q12 R12 x12; clear cP0_12 cP1_12 cP2_12 fP0_12 fP1_12 fP2_12 sP_12; obtain ⟨cP0_13, cP1_13, cP2_13, fP0_13, fP1_13, fP2_13, sP_13⟩ := P13.open3; clear cQ0_12 cQ1_12 cQ2_12 fQ0_12 fQ1_12 fQ2_12 sQ_12; obtain ⟨cQ0_13, cQ1_13, cQ2_13, fQ0_13, fQ1_13, fQ2_13, sQ_13⟩ := Q13.open3; clear cR0_12 cR1_12 cR2_12 fR0_12 fR1_12 fR2_12 sR_12; obtain ⟨cR0_13, cR1_13, cR2_13, fR0_13, fR1_13, fR2_13, sR_13⟩ := R13.open3)
                | fail)
              all_goals
                go_ret
                exact ⟨rfl, by assumption⟩
            · rw [Bool.true_and] at hpn
              subst hpn
              go_wp2_with
              (first
                | (go_at_call 12; (with_reducible refine (HF.out _ _ _ _).mono ?_); rintro e w8 ⟨rfl, hb8⟩; have B8 := B7.trans (hb8.mono B7.size); have m8 := m7.below hb8; have T8 := T7.below hb8; have n8 := n7.below hb8; have p8 := p7.below hb8; have P8 := P7.below hb8; have Q8 := Q7.below hb8; have R8 := R7.below hb8; clear m7 T7 n7 p7 P7 Q7 R7; obtain ⟨cP0_8, cP1_8, cP2_8, fP0_8, fP1_8, fP2_8, sP_8⟩ := P8.open3; obtain ⟨cQ0_8, cQ1_8, cQ2_8, fQ0_8, fQ1_8, fQ2_8, sQ_8⟩ := Q8.open3; obtain ⟨cR0_8, cR1_8, cR2_8, fR0_8, fR1_8, fR2_8, sR_8⟩ := R8.open3)
                | (go_at_call 11; (with_reducible refine (LF.out _ _ n8).mono ?_); rintro e w9 ⟨rfl, hb9⟩; have B9 := B8.trans (hb9.mono B8.size); have m9 := m8.below hb9; have T9 := T8.below hb9; have n9 := n8.below hb9; have p9 := p8.below hb9; have P9 := P8.below hb9; have Q9 := Q8.below hb9; have R9 := R8.below hb9; clear m8 T8 n8 p8 P8 Q8 R8; clear cP0_8 cP1_8 cP2_8 fP0_8 fP1_8 fP2_8 sP_8; obtain ⟨cP0_9, cP1_9, cP2_9, fP0_9, fP1_9, fP2_9, sP_9⟩ := P9.open3; clear cQ0_8 cQ1_8 cQ2_8 fQ0_8 fQ1_8 fQ2_8 sQ_8; obtain ⟨cQ0_9, cQ1_9, cQ2_9, fQ0_9, fQ1_9, fQ2_9, sQ_9⟩ := Q9.open3; clear cR0_8 cR1_8 cR2_8 fR0_8 fR1_8 fR2_8 sR_8; obtain ⟨cR0_9, cR1_9, cR2_9, fR0_9, fR1_9, fR2_9, sR_9⟩ := R9.open3)
                | (go_at_call 13; (with_reducible refine (LB.out _ _ n9).mono ?_); rintro e w10 ⟨rfl, hb10⟩; have B10 := B9.trans (hb10.mono B9.size); have m10 := m9.below hb10; have T10 := T9.below hb10; have n10 := n9.below hb10; have p10 := p9.below hb10; have P10 := P9.below hb10; have Q10 := Q9.below hb10; have R10 := R9.below hb10; clear m9 T9 n9 p9 P9 Q9 R9; clear cP0_9 cP1_9 cP2_9 fP0_9 fP1_9 fP2_9 sP_9; obtain ⟨cP0_10, cP1_10, cP2_10, fP0_10, fP1_10, fP2_10, sP_10⟩ := P10.open3; clear cQ0_9 cQ1_9 cQ2_9 fQ0_9 fQ1_9 fQ2_9 sQ_9; obtain ⟨cQ0_10, cQ1_10, cQ2_10, fQ0_10, fQ1_10, fQ2_10, sQ_10⟩ := Q10.open3; clear cR0_9 cR1_9 cR2_9 fR0_9 fR1_9 fR2_9 sR_9; obtain ⟨cR0_10, cR1_10, cR2_10, fR0_10, fR1_10, fR2_10, sR_10⟩ := R10.open3)
                | (go_at_call 13; (with_reducible refine (LB.out _ _ n10).mono ?_); rintro e w11 ⟨rfl, hb11⟩; have B11 := B10.trans (hb11.mono B10.size); have m11 := m10.below hb11; have T11 := T10.below hb11; have n11 := n10.below hb11; have p11 := p10.below hb11; have P11 := P10.below hb11; have Q11 := Q10.below hb11; have R11 := R10.below hb11; clear m10 T10 n10 p10 P10 Q10 R10; clear cP0_10 cP1_10 cP2_10 fP0_10 fP1_10 fP2_10 sP_10; obtain ⟨cP0_11, cP1_11, cP2_11, fP0_11, fP1_11, fP2_11, sP_11⟩ := P11.open3; clear cQ0_10 cQ1_10 cQ2_10 fQ0_10 fQ1_10 fQ2_10 sQ_10; obtain ⟨cQ0_11, cQ1_11, cQ2_11, fQ0_11, fQ1_11, fQ2_11, sQ_11⟩ := Q11.open3; clear cR0_10 cR1_10 cR2_10 fR0_10 fR1_10 fR2_10 sR_10; obtain ⟨cR0_11, cR1_11, cR2_11, fR0_11, fR1_11, fR2_11, sR_11⟩ := R11.open3)
                | (go_at_call 14; (with_reducible refine (TO.out _ _ ?_).mono ?_); (exact rd_one (heap_alloc_new _ _) trivial); rintro e w12 ⟨vx12, rfl, x12, hb12⟩; have hb12' := (below_a hb12); have B12 := B11.trans (hb12'.mono B11.size); have m12 := m11.below hb12'; have T12 := T11.below hb12'; have n12 := n11.below hb12'; have p12 := p11.below hb12'; have P12 := P11.below hb12'; have Q12 := Q11.below hb12'; have R12 := R11.below hb12'; clear m11 T11 n11 p11 P11 Q11 R11; clear cP0_11 cP1_11 cP2_11 fP0_11 fP1_11 fP2_11 sP_11; obtain ⟨cP0_12, cP1_12, cP2_12, fP0_12, fP1_12, fP2_12, sP_12⟩ := P12.open3; clear cQ0_11 cQ1_11 cQ2_11 fQ0_11 fQ1_11 fQ2_11 sQ_11; obtain ⟨cQ0_12, cQ1_12, cQ2_12, fQ0_12, fQ1_12, fQ2_12, sQ_12⟩ := Q12.open3; clear cR0_11 cR1_11 cR2_11 fR0_11 fR1_11 fR2_11 sR_11; obtain ⟨cR0_12, cR1_12, cR2_12, fR0_12, fR1_12, fR2_12, sR_12⟩ := R12.open3; obtain ⟨ax12, kx12, rfl, -⟩ := x12.view; try simp only [List.length_nil] at x12)
                | (go_at_call 15; (with_reducible refine (SM.out _ _ _ (p12.below (below_alloc _ _)) (x12.below (below_alloc _ _))).mono ?_); rintro e w13 ⟨rfl, hb13⟩; have hb13' := (below_a hb13); have B13 := B12.trans (hb13'.mono B12.size); have m13 := m12.below hb13'; have T13 := T12.below hb13'; have n13 := n12.below hb13'; have p13 := p12.below hb13'; have P13 := P12.below hb13'; have Q13 := Q12.below hb13'; have R13 := R12.below hb13'; have x13 := x12.below hb13'; clear m12 T12 n12 p12 P12 Q12 R12 x12; clear cP0_12 cP1_12 cP2_12 fP0_12 fP1_12 fP2_12 sP_12; obtain ⟨cP0_13, cP1_13, cP2_13, fP0_13, fP1_13, fP2_13, sP_13⟩ := P13.open3; clear cQ0_12 cQ1_12 cQ2_12 fQ0_12 fQ1_12 fQ2_12 sQ_12; obtain ⟨cQ0_13, cQ1_13, cQ2_13, fQ0_13, fQ1_13, fQ2_13, sQ_13⟩ := Q13.open3; clear cR0_12 cR1_12 cR2_12 fR0_12 fR1_12 fR2_12 sR_12; obtain ⟨cR0_13, cR1_13, cR2_13, fR0_13, fR1_13, fR2_13, sR_13⟩ := R13.open3)
                | fail)
              all_goals
                go_ret
                exact ⟨rfl, by assumption⟩
          · cases n'
            · rw [Bool.false_and] at hpn
              subst hpn
              go_wp2_with
              (first
                | (go_at_call 12; (with_reducible refine (HF.out _ _ _ _).mono ?_); rintro e w8 ⟨rfl, hb8⟩; have B8 := B7.trans (hb8.mono B7.size); have m8 := m7.below hb8; have T8 := T7.below hb8; have n8 := n7.below hb8; have p8 := p7.below hb8; have P8 := P7.below hb8; have Q8 := Q7.below hb8; have R8 := R7.below hb8; clear m7 T7 n7 p7 P7 Q7 R7; obtain ⟨cP0_8, cP1_8, cP2_8, fP0_8, fP1_8, fP2_8, sP_8⟩ := P8.open3; obtain ⟨cQ0_8, cQ1_8, cQ2_8, fQ0_8, fQ1_8, fQ2_8, sQ_8⟩ := Q8.open3; obtain ⟨cR0_8, cR1_8, cR2_8, fR0_8, fR1_8, fR2_8, sR_8⟩ := R8.open3)
                | (go_at_call 11; (with_reducible refine (LF.out _ _ n8).mono ?_); rintro e w9 ⟨rfl, hb9⟩; have B9 := B8.trans (hb9.mono B8.size); have m9 := m8.below hb9; have T9 := T8.below hb9; have n9 := n8.below hb9; have p9 := p8.below hb9; have P9 := P8.below hb9; have Q9 := Q8.below hb9; have R9 := R8.below hb9; clear m8 T8 n8 p8 P8 Q8 R8; clear cP0_8 cP1_8 cP2_8 fP0_8 fP1_8 fP2_8 sP_8; obtain ⟨cP0_9, cP1_9, cP2_9, fP0_9, fP1_9, fP2_9, sP_9⟩ := P9.open3; clear cQ0_8 cQ1_8 cQ2_8 fQ0_8 fQ1_8 fQ2_8 sQ_8; obtain ⟨cQ0_9, cQ1_9, cQ2_9, fQ0_9, fQ1_9, fQ2_9, sQ_9⟩ := Q9.open3; clear cR0_8 cR1_8 cR2_8 fR0_8 fR1_8 fR2_8 sR_8; obtain ⟨cR0_9, cR1_9, cR2_9, fR0_9, fR1_9, fR2_9, sR_9⟩ := R9.open3)
                | (go_at_call 13; (with_reducible refine (LB.out _ _ n9).mono ?_); rintro e w10 ⟨rfl, hb10⟩; have B10 := B9.trans (hb10.mono B9.size); have m10 := m9.below hb10; have T10 := T9.below hb10; have n10 := n9.below hb10; have p10 := p9.below hb10; have P10 := P9.below hb10; have Q10 := Q9.below hb10; have R10 := R9.below hb10; clear m9 T9 n9 p9 P9 Q9 R9; clear cP0_9 cP1_9 cP2_9 fP0_9 fP1_9 fP2_9 sP_9; obtain ⟨cP0_10, cP1_10, cP2_10, fP0_10, fP1_10, fP2_10, sP_10⟩ := P10.open3; clear cQ0_9 cQ1_9 cQ2_9 fQ0_9 fQ1_9 fQ2_9 sQ_9; obtain ⟨cQ0_10, cQ1_10, cQ2_10, fQ0_10, fQ1_10, fQ2_10, sQ_10⟩ := Q10.open3; clear cR0_9 cR1_9 cR2_9 fR0_9 fR1_9 fR2_9 sR_9; obtain ⟨cR0_10, cR1_10, cR2_10, fR0_10, fR1_10, fR2_10, sR_10⟩ := R10.open3)
                | (go_at_call 13; (with_reducible refine (LB.out _ _ n10).mono ?_); rintro e w11 ⟨rfl, hb11⟩; have B11 := B10.trans (hb11.mono B10.size); have m11 := m10.below hb11; have T11 := T10.below hb11; have n11 := n10.below hb11; have p11 := p10.below hb11; have P11 := P10.below hb11; have Q11 := Q10.below hb11; have R11 := R10.below hb11; clear m10 T10 n10 p10 P10 Q10 R10; clear cP0_10 cP1_10 cP2_10 fP0_10 fP1_10 fP2_10 sP_10; obtain ⟨cP0_11, cP1_11, cP2_11, fP0_11, fP1_11, fP2_11, sP_11⟩ := P11.open3; clear cQ0_10 cQ1_10 cQ2_10 fQ0_10 fQ1_10 fQ2_10 sQ_10; obtain ⟨cQ0_11, cQ1_11, cQ2_11, fQ0_11, fQ1_11, fQ2_11, sQ_11⟩ := Q11.open3; clear cR0_10 cR1_10 cR2_10 fR0_10 fR1_10 fR2_10 sR_10; obtain ⟨cR0_11, cR1_11, cR2_11, fR0_11, fR1_11, fR2_11, sR_11⟩ := R11.open3)
                | (go_at_call 14; (with_reducible refine (TO.out _ _ ?_).mono ?_); (exact rd_one (heap_alloc_new _ _) trivial); rintro e w12 ⟨vx12, rfl, x12, hb12⟩; have hb12' := (below_a hb12); have B12 := B11.trans (hb12'.mono B11.size); have m12 := m11.below hb12'; have T12 := T11.below hb12'; have n12 := n11.below hb12'; have p12 := p11.below hb12'; have P12 := P11.below hb12'; have Q12 := Q11.below hb12'; have R12 := R11.below hb12'; clear m11 T11 n11 p11 P11 Q11 R11; clear cP0_11 cP1_11 cP2_11 fP0_11 fP1_11 fP2_11 sP_11; obtain ⟨cP0_12, cP1_12, cP2_12, fP0_12, fP1_12, fP2_12, sP_12⟩ := P12.open3; clear cQ0_11 cQ1_11 cQ2_11 fQ0_11 fQ1_11 fQ2_11 sQ_11; obtain ⟨cQ0_12, cQ1_12, cQ2_12, fQ0_12, fQ1_12, fQ2_12, sQ_12⟩ := Q12.open3; clear cR0_11 cR1_11 cR2_11 fR0_11 fR1_11 fR2_11 sR_11; obtain ⟨cR0_12, cR1_12, cR2_12, fR0_12, fR1_12, fR2_12, sR_12⟩ := R12.open3; obtain ⟨ax12, kx12, rfl, -⟩ := x12.view; try simp only [List.length_nil] at x12)
                | (go_at_call 15; (with_reducible refine (SM.out _ _ _ (p12.below (below_alloc _ _)) (x12.below (below_alloc _ _))).mono ?_); rintro e w13 ⟨rfl, hb13⟩; have hb13' := (below_a hb13); have B13 := B12.trans (hb13'.mono B12.size); have m13 := m12.below hb13'; have T13 := T12.below hb13'; have n13 := n12.below hb13'; have p13 := p12.below hb13'; have P13 := P12.below hb13'; have Q13 := Q12.below hb13'; have R13 := R12.below hb13'; have x13 := x12.below hb13'; clear m12 T12 n12 p12 P12 Q12 R12 x12; clear cP0_12 cP1_12 cP2_12 fP0_12 fP1_12 fP2_12 sP_12; obtain ⟨cP0_13, cP1_13, cP2_13, fP0_13, fP1_13, fP2_13, sP_13⟩ := P13.open3; clear cQ0_12 cQ1_12 cQ2_12 fQ0_12 fQ1_12 fQ2_12 sQ_12; obtain ⟨cQ0_13, cQ1_13, cQ2_13, fQ0_13, fQ1_13, fQ2_13, sQ_13⟩ := Q13.open3; clear cR0_12 cR1_12 cR2_12 fR0_12 fR1_12 fR2_12 sR_12; obtain ⟨cR0_13, cR1_13, cR2_13, fR0_13, fR1_13, fR2_13, sR_13⟩ := R13.open3)
                | fail)
              all_goals
                go_ret
                exact ⟨rfl, by assumption⟩
            · rw [Bool.true_and] at hpn
              subst hpn
              go_wp2_with
              (first
                | (go_at_call 12; (with_reducible refine (HF.out _ _ _ _).mono ?_); rintro e w8 ⟨rfl, hb8⟩; have B8 := B7.trans (hb8.mono B7.size); have m8 := m7.below hb8; have T8 := T7.below hb8; have n8 := n7.below hb8; have p8 := p7.below hb8; have P8 := P7.below hb8; have Q8 := Q7.below hb8; have R8 := R7.below hb8; clear m7 T7 n7 p7 P7 Q7 R7; obtain ⟨cP0_8, cP1_8, cP2_8, fP0_8, fP1_8, fP2_8, sP_8⟩ := P8.open3; obtain ⟨cQ0_8, cQ1_8, cQ2_8, fQ0_8, fQ1_8, fQ2_8, sQ_8⟩ := Q8.open3; obtain ⟨cR0_8, cR1_8, cR2_8, fR0_8, fR1_8, fR2_8, sR_8⟩ := R8.open3)
                | (go_at_call 11; (with_reducible refine (LF.out _ _ n8).mono ?_); rintro e w9 ⟨rfl, hb9⟩; have B9 := B8.trans (hb9.mono B8.size); have m9 := m8.below hb9; have T9 := T8.below hb9; have n9 := n8.below hb9; have p9 := p8.below hb9; have P9 := P8.below hb9; have Q9 := Q8.below hb9; have R9 := R8.below hb9; clear m8 T8 n8 p8 P8 Q8 R8; clear cP0_8 cP1_8 cP2_8 fP0_8 fP1_8 fP2_8 sP_8; obtain ⟨cP0_9, cP1_9, cP2_9, fP0_9, fP1_9, fP2_9, sP_9⟩ := P9.open3; clear cQ0_8 cQ1_8 cQ2_8 fQ0_8 fQ1_8 fQ2_8 sQ_8; obtain ⟨cQ0_9, cQ1_9, cQ2_9, fQ0_9, fQ1_9, fQ2_9, sQ_9⟩ := Q9.open3; clear cR0_8 cR1_8 cR2_8 fR0_8 fR1_8 fR2_8 sR_8; obtain ⟨cR0_9, cR1_9, cR2_9, fR0_9, fR1_9, fR2_9, sR_9⟩ := R9.open3)
                | (go_at_call 13; (with_reducible refine (LB.out _ _ n9).mono ?_); rintro e w10 ⟨rfl, hb10⟩; have B10 := B9.trans (hb10.mono B9.size); have m10 := m9.below hb10; have T10 := T9.below hb10; have n10 := n9.below hb10; have p10 := p9.below hb10; have P10 := P9.below hb10; have Q10 := Q9.below hb10; have R10 := R9.below hb10; clear m9 T9 n9 p9 P9 Q9 R9; clear cP0_9 cP1_9 cP2_9 fP0_9 fP1_9 fP2_9 sP_9; obtain ⟨cP0_10, cP1_10, cP2_10, fP0_10, fP1_10, fP2_10, sP_10⟩ := P10.open3; clear cQ0_9 cQ1_9 cQ2_9 fQ0_9 fQ1_9 fQ2_9 sQ_9; obtain ⟨cQ0_10, cQ1_10, cQ2_10, fQ0_10, fQ1_10, fQ2_10, sQ_10⟩ := Q10.open3; clear cR0_9 cR1_9 cR2_9 fR0_9 fR1_9 fR2_9 sR_9; obtain ⟨cR0_10, cR1_10, cR2_10, fR0_10, fR1_10, fR2_10, sR_10⟩ := R10.open3)
                | (go_at_call 13; (with_reducible refine (LB.out _ _ n10).mono ?_); rintro e w11 ⟨rfl, hb11⟩; have B11 := B10.trans (hb11.mono B10.size); have m11 := m10.below hb11; have T11 := T10.below hb11; have n11 := n10.below hb11; have p11 := p10.below hb11; have P11 := P10.below hb11; have Q11 := Q10.below hb11; have R11 := R10.below hb11; clear m10 T10 n10 p10 P10 Q10 R10; clear cP0_10 cP1_10 cP2_10 fP0_10 fP1_10 fP2_10 sP_10; obtain ⟨cP0_11, cP1_11, cP2_11, fP0_11, fP1_11, fP2_11, sP_11⟩ := P11.open3; clear cQ0_10 cQ1_10 cQ2_10 fQ0_10 fQ1_10 fQ2_10 sQ_10; obtain ⟨cQ0_11, cQ1_11, cQ2_11, fQ0_11, fQ1_11, fQ2_11, sQ_11⟩ := Q11.open3; clear cR0_10 cR1_10 cR2_10 fR0_10 fR1_10 fR2_10 sR_10; obtain ⟨cR0_11, cR1_11, cR2_11, fR0_11, fR1_11, fR2_11, sR_11⟩ := R11.open3)
                | (go_at_call 14; (with_reducible refine (TO.out _ _ ?_).mono ?_); (exact rd_one (heap_alloc_new _ _) trivial); rintro e w12 ⟨vx12, rfl, x12, hb12⟩; have hb12' := (below_a hb12); have B12 := B11.trans (hb12'.mono B11.size); have m12 := m11.below hb12'; have T12 := T11.below hb12'; have n12 := n11.below hb12'; have p12 := p11.below hb12'; have P12 := P11.below hb12'; have Q12 := Q11.below hb12'; have R12 := R11.below hb12'; clear m11 T11 n11 p11 P11 Q11 R11; clear cP0_11 cP1_11 cP2_11 fP0_11 fP1_11 fP2_11 sP_11; obtain ⟨cP0_12, cP1_12, cP2_12, fP0_12, fP1_12, fP2_12, sP_12⟩ := P12.open3; clear cQ0_11 cQ1_11 cQ2_11 fQ0_11 fQ1_11 fQ2_11 sQ_11; obtain ⟨cQ0_12, cQ1_12, cQ2_12, fQ0_12, fQ1_12, fQ2_12, sQ_12⟩ := Q12.open3; clear cR0_11 cR1_11 cR2_11 fR0_11 fR1_11 fR2_11 sR_11; obtain ⟨cR0_12, cR1_12, cR2_12, fR0_12, fR1_12, fR2_12, sR_12⟩ := R12.open3; obtain ⟨ax12, kx12, rfl, -⟩ := x12.view; try simp only [List.length_nil] at x12)
                | (go_at_call 15; (with_reducible refine (SM.out _ _ _ (p12.below (below_alloc _ _)) (x12.below (below_alloc _ _))).mono ?_); rintro e w13 ⟨rfl, hb13⟩; have hb13' := (below_a hb13); have B13 := B12.trans (hb13'.mono B12.size); have m13 := m12.below hb13'; have T13 := T12.below hb13'; have n13 := n12.below hb13'; have p13 := p12.below hb13'; have P13 := P12.below hb13'; have Q13 := Q12.below hb13'; have R13 := R12.below hb13'; have x13 := x12.below hb13'; clear m12 T12 n12 p12 P12 Q12 R12 x12; clear cP0_12 cP1_12 cP2_12 fP0_12 fP1_12 fP2_12 sP_12; obtain ⟨cP0_13, cP1_13, cP2_13, fP0_13, fP1_13, fP2_13, sP_13⟩ := P13.open3; clear cQ0_12 cQ1_12 cQ2_12 fQ0_12 fQ1_12 fQ2_12 sQ_12; obtain ⟨cQ0_13, cQ1_13, cQ2_13, fQ0_13, fQ1_13, fQ2_13, sQ_13⟩ := Q13.open3; clear cR0_12 cR1_12 cR2_12 fR0_12 fR1_12 fR2_12 sR_12; obtain ⟨cR0_13, cR1_13, cR2_13, fR0_13, fR1_13, fR2_13, sR_13⟩ := R13.open3)
                | fail)
              all_goals
                go_ret
                exact ⟨rfl, by assumption⟩
end Go.Proofs.YtegpfmfobeigfaaDoor.PRPows
