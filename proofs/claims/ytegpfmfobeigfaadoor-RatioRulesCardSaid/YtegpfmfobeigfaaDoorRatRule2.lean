/- What RatioRules' calls tell: the sum of b and more, powers as operands. Conditions: math/bits' table stands in its variable. -/
import Derived.Test.YtegpfmfobeigfaaDoorRatRule
import Derived.Test.YtegpfmfobeigfaaDoorRatWay
import Derived.Test.YtegpfmfobeigfaaDoorDy6
namespace Go.Proofs.YtegpfmfobeigfaaDoor
set_option maxRecDepth 100000
open Go.RowKit

/-- What ratio.Pow does with any dyad of at most 1280 bits: refused, too long, or the power. -/
theorem pow_ways {b0 n' ff r : Bool} {A M b : Nat} {e0 E a1 : Int} (ed : bareD ⟨b0, A, e0⟩ = ⟨n', M, E⟩) (hodd : M % 2 = 1 ∨ M = 0 ∧ n' = false ∧ E = 0) (h2 : -9223372036854775808 ≤ e0 ∧ e0 ≤ 9223372036854775807) (h1 : -9223372036854775808 ≤ a1 ∧ a1 ≤ 9223372036854775807)
    (hb : bitN M = b) (hff : fitsE E = ff) (hr : (fitsE E && decide (bitN M * a1.natAbs ≤ 60000) && decide (E.natAbs * a1.natAbs ≤ 60000)) = r) :
    ∃ (pn : Bool) (pM : Nat) (pE k : Int), (∀ (w : World) (v : Value), Num w v A → Tab w → Calls Tryd.prog 9 #[.agg #[.bool b0, v, .int .i64 e0], .int .i64 a1] w (fun e w' => ∃ v, e = .returned (.tuple #[.agg #[.bool pn, v, .int .i64 pE], .int .i64 k]) ∧ RdN w' v (digs BB pM) ∧ Below w.heap.size w w')) ∧
        ((ff = false ∨ a1 < 0) ∧ k = 1 ∧ pM = 0 ∨ ff = true ∧ 0 ≤ a1 ∧ r = false ∧ k = 2 ∧ pM = 0 ∨
          ∃ K : Nat, a1 = K ∧ ff = true ∧ r = true ∧ k = 0 ∧ b * K ≤ 60000 ∧ E.natAbs * K ≤ 60000 ∧ (M = 0 ∧ 0 < K ∧ pM = 0 ∨ (M % 2 = 1 ∨ M = 0 ∧ K = 0 ∧ n' = false ∧ E = 0) ∧ (n' && decide (K % 2 = 1)) = pn ∧ M ^ K = pM ∧ E * (K : Int) = pE)) := by
  subst hb
  by_cases hbad : ff = false ∨ a1 < 0
  · refine ⟨false, 0, 0, 1, fun w v h hT => ?_, .inl ⟨hbad, rfl, rfl⟩⟩
    refine (Pow_arg h hT h2.1 h2.2 ed (by rw [hff]; exact hbad)).mono ?_
    rintro e w' ⟨rfl, hB⟩
    exact ⟨_, rfl, RdN.nil0 _, hB⟩
  · have hf1 : ff = true := by cases ff; exact absurd (.inl rfl) hbad; rfl
    have ha : 0 ≤ a1 := by have := fun h => hbad (.inr h); omega
    subst hf1
    rw [hff, Bool.true_and] at hr
    cases r
    · refine ⟨false, 0, 0, 2, fun w v h hT => ?_, .inr (.inl ⟨rfl, ha, rfl, rfl, rfl⟩)⟩
      refine (Pow_long h hT h2.1 h2.2 ed hff ha h1.2 hr).mono ?_
      rintro e w' ⟨rfl, hB⟩
      exact ⟨_, rfl, RdN.nil0 _, hB⟩
    · obtain ⟨K, rfl⟩ : ∃ K : Nat, a1 = K := ⟨a1.toNat, by omega⟩
      rw [Bool.and_eq_true, decide_eq_true_eq, decide_eq_true_eq, Int.natAbs_natCast] at hr
      obtain ⟨hr1, hr2⟩ := hr
      by_cases h00 : M = 0 ∧ 0 < K
      · obtain ⟨rfl, hK⟩ := h00
        refine ⟨false, 0, 0, 0, fun w v h hT => ?_, .inr (.inr ⟨K, rfl, rfl, rfl, rfl, hr1, hr2, .inl ⟨rfl, hK, rfl⟩⟩)⟩
        exact Pow_ok h hT h2.1 h2.2 ed (by omega) hff hr1 hr2 (Nat.zero_pow hK) (bareD_zero rfl) rfl
      · have hod : M % 2 = 1 ∨ M = 0 ∧ K = 0 ∧ n' = false ∧ E = 0 := by
          rcases hodd with h | ⟨h, h', h''⟩
          · exact .inl h
          · exact .inr ⟨h, by have := fun hk => h00 ⟨h, hk⟩; omega, h', h''⟩
        have hP : (M ^ K) % 2 = 1 := by
          rcases hod with h | ⟨h, rfl, -, -⟩
          · exact odd_pow h K
          · rfl
        have ht : (E * (K : Int)).natAbs ≤ 60000 := by rw [Int.natAbs_mul, Int.natAbs_natCast]; exact hr2
        have ht1 : -60000 ≤ E * (K : Int) := by omega
        have ht2 : E * (K : Int) ≤ 60000 := by omega
        refine ⟨n' && decide (K % 2 = 1), M ^ K, E * (K : Int), 0, fun w v h hT => ?_, .inr (.inr ⟨K, rfl, rfl, rfl, rfl, hr1, hr2, .inr ⟨hod, rfl, rfl, rfl⟩⟩)⟩
        exact Pow_ok h hT h2.1 h2.2 ed (by omega) hff hr1 hr2 rfl (bareD_odd hP (by omega) (by omega)) (by unfold fitsE; rw [decide_eq_true (by omega), decide_eq_true (by omega)]; rfl)

/-- A bare sum of two above nought: it is as great as the first. -/
theorem add_more {b2 b4 gn : Bool} {A2 A4 M2 M4 gM : Nat} {e2 e4 E2 E4 gE : Int} (hq : addQ ⟨b2, A2, e2⟩ ⟨b4, A4, e4⟩ = (gn, gM, gE, 0)) (ed2 : bareD ⟨b2, A2, e2⟩ = ⟨false, M2, E2⟩) (ed4 : bareD ⟨b4, A4, e4⟩ = ⟨false, M4, E4⟩) (h2 : M2 ≠ 0) (h4 : M4 ≠ 0) :
    gn = false ∧ gM % 2 = 1 ∧ (-1073741824 ≤ gE ∧ gE ≤ 1073741824) ∧ bitN gM ≤ 65537 ∧ ∃ L, L ≤ E2 ∧ L ≤ gE ∧ at2 M2 E2 L ≤ at2 gM gE L := by
  unfold addQ at hq
  rw [ed2, ed4] at hq
  simp only at hq
  by_cases f1 : fitsE E2 = false
  · rw [if_pos f1] at hq; injection hq with _ h; injection h with _ h; injection h with _ h; exact absurd h (by decide)
  rw [if_neg f1] at hq
  by_cases f2 : fitsE E4 = false
  · rw [if_pos f2] at hq; injection hq with _ h; injection h with _ h; injection h with _ h; exact absurd h (by decide)
  rw [if_neg f2, if_neg h2, if_neg h4] at hq
  have f1' : fitsE E2 = true := eq_true_of_ne_false f1
  have f2' : fitsE E4 = true := eq_true_of_ne_false f2
  have r1 : -1073741824 ≤ E2 ∧ E2 ≤ 1073741824 := by unfold fitsE at f1'; simp at f1'; exact f1'
  have r2 : -1073741824 ≤ E4 ∧ E4 ≤ 1073741824 := by unfold fitsE at f2'; simp at f2'; exact f2'
  by_cases hb : 65535 < max (topD ⟨false, M2, E2⟩) (topD ⟨false, M4, E4⟩) - min E2 E4
  · rw [if_pos hb] at hq; injection hq with _ h; injection h with _ h; injection h with _ h; exact absurd h (by decide)
  rw [if_neg hb] at hq
  unfold topD at hb
  simp only at hb
  have hX0 : M2 * 2 ^ (E2 - min E2 E4).toNat ≠ 0 := Nat.mul_ne_zero h2 (Nat.ne_of_gt (Nat.pow_pos (by omega)))
  have hs : sumD ⟨false, M2, E2⟩ ⟨false, M4, E4⟩ = ⟨false, M2 * 2 ^ (E2 - min E2 E4).toNat + M4 * 2 ^ (E4 - min E2 E4).toNat, min E2 E4⟩ := rfl
  rw [hs] at hq
  unfold makeQ at hq
  by_cases hf : fitsE (bareD ⟨false, M2 * 2 ^ (E2 - min E2 E4).toNat + M4 * 2 ^ (E4 - min E2 E4).toNat, min E2 E4⟩).e = true
  · rw [if_pos hf] at hq
    obtain ⟨⟨n, G, Eg⟩, hd⟩ : ∃ d, bareD ⟨false, M2 * 2 ^ (E2 - min E2 E4).toNat + M4 * 2 ^ (E4 - min E2 E4).toNat, min E2 E4⟩ = d := ⟨_, rfl⟩
    rw [hd] at hq hf
    simp only at hq hf
    injection hq with z1 hq; injection hq with z2 hq; injection hq with z3 _
    subst z1 z2 z3
    have b1 : bitN (M2 * 2 ^ (E2 - min E2 E4).toNat) ≤ 65536 := by rw [bitN_shift h2]; omega
    have b2 : bitN (M4 * 2 ^ (E4 - min E2 E4).toNat) ≤ 65536 := by rw [bitN_shift h4]; omega
    have hle : M2 * 2 ^ (E2 - min E2 E4).toNat ≤ M2 * 2 ^ (E2 - min E2 E4).toNat + M4 * 2 ^ (E4 - min E2 E4).toNat := Nat.le_add_right _ _
    have bs := bitN_sum b1 b2
    have h0 : M2 * 2 ^ (E2 - min E2 E4).toNat + M4 * 2 ^ (E4 - min E2 E4).toNat ≠ 0 := fun h => hX0 (by omega)
    obtain ⟨q1, q2, q3, q4⟩ := bare_at hd h0 (by omega) (by omega)
    refine ⟨q1.symm, q2, ?_, ?_, min E2 E4, by omega, q3, ?_⟩
    · unfold fitsE at hf; simp at hf; exact hf
    · refine Nat.le_trans (bitN_mono ?_) bs
      rw [← q4]; unfold at2
      exact Nat.le_mul_of_pos_right _ (Nat.pow_pos (by omega))
    · rw [q4]; exact hle
  · rw [if_neg hf] at hq; injection hq with _ h; injection h with _ h; injection h with _ h; exact absurd h (by decide)
end Go.Proofs.YtegpfmfobeigfaaDoor
