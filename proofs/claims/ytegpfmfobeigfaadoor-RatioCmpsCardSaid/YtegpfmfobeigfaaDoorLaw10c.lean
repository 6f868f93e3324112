/- Chapter 10's own fits; planimeterref10.Pow. Conditions: the numbers are short. -/
import Derived.Test.YtegpfmfobeigfaaDoorLaw10b
import Derived.Test.YtegpfmfobeigfaaDoorRefQuick
namespace Go.Proofs.YtegpfmfobeigfaaDoor
set_option maxRecDepth 100000
open Go.RowKit Go.ChangeShapes Go.WideShapes

theorem clamp_mul {b c L : Nat} (hc : L < c) (k : Nat) : decide (b * min k c ≤ L) = decide (b * k ≤ L) := by
  refine decide_eq_decide.2 ?_
  rcases Nat.le_total k c with h | h
  · rw [Nat.min_eq_left h]
  · rw [Nat.min_eq_right h]
    rcases Nat.eq_zero_or_pos b with rfl | hb
    · simp
    · have h1 : c ≤ b * c := Nat.le_mul_of_pos_left _ hb
      have h2 : c ≤ b * k := Nat.le_trans h (Nat.le_mul_of_pos_left _ hb)
      exact ⟨fun h3 => absurd (Nat.le_trans h1 h3) (Nat.not_le.2 hc), fun h3 => absurd (Nat.le_trans h2 h3) (Nat.not_le.2 hc)⟩
/-- Clamped sizes tell the same. -/
theorem clamp_fits {b : Nat} {m : Int} : decide (b * lsize m ≤ 60000) = decide (b * m.natAbs ≤ 60000) := clamp_mul (by decide) _
theorem clamp_both {a m : Int} : decide (lsize a * lsize m ≤ 60000) = decide (a.natAbs * m.natAbs ≤ 60000) := by
  rw [clamp_fits, Nat.mul_comm, Nat.mul_comm a.natAbs]
  exact clamp_mul (by decide) _

theorem lfits_n {w : World} {u : Value} {neg : Bool} {M : Nat} {E m : Int} {r : Bool} (h : RdD w u (digs DD M)) (sM : bitN M ≤ 200000) (h1 : -4294967296 ≤ E) (h2 : E ≤ 4294967296)
    (hr : (fitsE E && decide (bitN M * m.natAbs ≤ 60000) && decide (E.natAbs * m.natAbs ≤ 60000)) = r) :
    Calls Tryd.prog 11 #[.agg #[.bool neg, u, .int .i64 E], .int .i64 m] w (fun e w' => e = .returned (.bool r) ∧ Below w.heap.size w w') := by
  obtain ⟨a, n, k, rfl⟩ := h.slice
  obtain ⟨b, hb⟩ : ∃ b, bitN M = b := ⟨_, rfl⟩
  have HF := Lib.hid (fun w a n k => RFits_n (w := w) (a := a) (n := n) (k := k) (neg := neg) (E := E))
  have HB := Lib.hid (fun w u (h : RdD w u (digs DD M)) => lbits_n (neg := neg) h sM h1 h2 hb)
  have bb : b ≤ 200000 := by omega
  rw [hb, ← clamp_fits, ← clamp_both] at hr
  obtain ⟨sm, hsm⟩ : ∃ s, lsize m = s := ⟨_, rfl⟩
  obtain ⟨se, hse⟩ : ∃ s, lsize E = s := ⟨_, rfl⟩
  have HS1 := Lib.hid (fun w => lsize_n (w := w) (n := m))
  have HS2 := Lib.hid (fun w => lsize_n (w := w) (n := E))
  have bsm : sm ≤ 100000 := by rw [← hsm]; unfold lsize; omega
  have bse : se ≤ 100000 := by rw [← hse]; unfold lsize; omega
  rw [hsm] at HS1 hr
  rw [hse] at HS2 hr
  obtain ⟨p1, hp1⟩ : ∃ p, b * sm = p := ⟨_, rfl⟩
  obtain ⟨p2, hp2⟩ : ∃ p, se * sm = p := ⟨_, rfl⟩
  have bp1 : p1 ≤ 20000000000 := by rw [← hp1]; exact Nat.le_trans (Nat.mul_le_mul bb bsm) (by decide)
  have bp2 : p2 ≤ 20000000000 := by rw [← hp2]; exact Nat.le_trans (Nat.mul_le_mul bse bsm) (by decide)
  have i1 : (b : Int) * (sm : Int) = (p1 : Int) := by rw [← hp1, Int.natCast_mul]
  have i2 : (se : Int) * (sm : Int) = (p2 : Int) := by rw [← hp2, Int.natCast_mul]
  rw [hp1, hp2] at hr
  obtain ⟨f, hf⟩ : ∃ f, fitsE E = f := ⟨_, rfl⟩
  rw [hf] at HF hr
  clear hb hsm hse hp1 hp2 hf
  cases f
  · rw [Bool.false_and, Bool.false_and] at hr
    subst hr
    go_enter Tryd.func11, Tryd.ntmps11
    go_wp2_with
    (first
      | (go_at_call 12; (with_reducible refine (HF.out _ _ _ _).mono ?_); rintro e w1 ⟨rfl, hb1⟩; have B1 := (below_alloc _ _).trans (hb1.mono (below_alloc _ _).size); have x1 := ((h.below (below_alloc _ _))).below hb1; have P1 := ((blk_new)).below hb1; obtain ⟨cP0_1, cP1_1, cP2_1, fP0_1, fP1_1, fP2_1, sP_1⟩ := P1.open3)
      | fail)
    all_goals
      go_ret
      exact ⟨rfl, by assumption⟩
  · rw [Bool.true_and] at hr
    by_cases c1 : p1 ≤ 60000
    · rw [decide_eq_true c1, Bool.true_and] at hr
      have d1 : decide (p1 ≤ 60000) = true := decide_eq_true c1
      have d2 : decide ((p1 : Int) ≤ 60000) = true := decide_eq_true (by omega)
      have d3 : decide ((p2 : Int) ≤ 60000) = r := by rw [← hr]; exact decide_eq_decide.2 (by omega)
      have d4 := hr
      clear hr
      go_enter Tryd.func11, Tryd.ntmps11
      go_wp2_with
      (first
        | (go_at_call 12; (with_reducible refine (HF.out _ _ _ _).mono ?_); rintro e w1 ⟨rfl, hb1⟩; have B1 := (below_alloc _ _).trans (hb1.mono (below_alloc _ _).size); have x1 := ((h.below (below_alloc _ _))).below hb1; have P1 := ((blk_new)).below hb1; obtain ⟨cP0_1, cP1_1, cP2_1, fP0_1, fP1_1, fP2_1, sP_1⟩ := P1.open3)
        | (go_at_call 13; (with_reducible refine (HB.out _ _ x1).mono ?_); rintro e w2 ⟨rfl, hb2⟩; have B2 := B1.trans (hb2.mono B1.size); have x2 := x1.below hb2; have P2 := P1.below hb2; clear x1 P1; clear cP0_1 cP1_1 cP2_1 fP0_1 fP1_1 fP2_1 sP_1; obtain ⟨cP0_2, cP1_2, cP2_2, fP0_2, fP1_2, fP2_2, sP_2⟩ := P2.open3)
        | (go_at_call 19; (with_reducible refine (HS1.out _).mono ?_); rintro e w3 ⟨rfl, rfl⟩)
        | (go_at_call 19; (with_reducible refine (HS2.out _).mono ?_); rintro e w4 ⟨rfl, rfl⟩)
        | fail)
      all_goals
        go_ret
        exact ⟨rfl, by assumption⟩
    · have hrf : r = false := by rw [← hr, decide_eq_false c1, Bool.false_and]
      subst hrf
      have d1 : decide (p1 ≤ 60000) = false := decide_eq_false c1
      have d2 : decide ((p1 : Int) ≤ 60000) = false := decide_eq_false (by omega)
      clear hr
      go_enter Tryd.func11, Tryd.ntmps11
      go_wp2_with
      (first
        | (go_at_call 12; (with_reducible refine (HF.out _ _ _ _).mono ?_); rintro e w1 ⟨rfl, hb1⟩; have B1 := (below_alloc _ _).trans (hb1.mono (below_alloc _ _).size); have x1 := ((h.below (below_alloc _ _))).below hb1; have P1 := ((blk_new)).below hb1; obtain ⟨cP0_1, cP1_1, cP2_1, fP0_1, fP1_1, fP2_1, sP_1⟩ := P1.open3)
        | (go_at_call 13; (with_reducible refine (HB.out _ _ x1).mono ?_); rintro e w2 ⟨rfl, hb2⟩; have B2 := B1.trans (hb2.mono B1.size); have x2 := x1.below hb2; have P2 := P1.below hb2; clear x1 P1; clear cP0_1 cP1_1 cP2_1 fP0_1 fP1_1 fP2_1 sP_1; obtain ⟨cP0_2, cP1_2, cP2_2, fP0_2, fP1_2, fP2_2, sP_2⟩ := P2.open3)
        | (go_at_call 19; (with_reducible refine (HS1.out _).mono ?_); rintro e w3 ⟨rfl, rfl⟩)
        | fail)
      all_goals
        go_ret
        exact ⟨rfl, by assumption⟩
end Go.Proofs.YtegpfmfobeigfaaDoor
