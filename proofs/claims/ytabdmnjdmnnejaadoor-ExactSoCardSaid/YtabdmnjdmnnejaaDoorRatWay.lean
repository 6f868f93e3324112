/- ratio.Cmp on any two dyads that are short: refused, too long, or the order of the powers. Conditions: math/bits' table stands in its variable. -/
import Derived.Test.YtabdmnjdmnnejaaDoorRatA
import Derived.Test.YtabdmnjdmnnejaaDoorRat5
namespace Go.Proofs.YtabdmnjdmnnejaaDoor
set_option maxRecDepth 100000
open Go.RowKit

/-- What is bared is odd, or nothing. -/
theorem bare_cases {d : Dn} {n : Bool} {M : Nat} {E : Int} (h : bareD d = ⟨n, M, E⟩) (hd : bitN d.m ≤ 1280) : (M % 2 = 1 ∨ M = 0 ∧ n = false ∧ E = 0) ∧ -2147483648 ≤ E ∧ E ≤ 2147484928 := by
  by_cases h0 : d.m = 0
  · rw [bareD_zero h0] at h
    injection h with z1 z2 z3
    exact ⟨.inr ⟨z2.symm, z1.symm, z3.symm⟩, by omega, by omega⟩
  · rw [bareD_pos h0] at h
    injection h with z1 z2 z3
    obtain ⟨k, hk⟩ := low2_eq h0
    have hl := low2_lt h0
    have hc := cutE_range d.e
    refine ⟨.inl ?_, by omega, by omega⟩
    rw [← z2, odd_eq hk]; omega

/-- Above nought: no sign, and something. -/
theorem sign_pos {n : Bool} {M : Nat} {E : Int} (h : 0 < signD ⟨n, M, E⟩) : n = false ∧ M ≠ 0 := by
  unfold signD at h
  by_cases h0 : M = 0
  · rw [if_pos h0] at h; omega
  · rw [if_neg h0] at h
    refine ⟨?_, h0⟩
    cases n
    · rfl
    · exact absurd h (show ¬ (0 : Int) < -1 by decide)

theorem bare_neg {n n' : Bool} {M M' : Nat} {E E' : Int} (h : bareD ⟨n, M, E⟩ = ⟨n', M', E'⟩) (h0 : M ≠ 0) : n = n' := by
  rw [bareD_pos h0] at h
  injection h

theorem cmp_way {b0 b2 n1 n2 f1 f2 r1 r2 : Bool} {A A2 M1 M2 : Nat} {e0 e2 E1 E2 m k s1 s2 : Int} (ed : bareD ⟨b0, A, e0⟩ = ⟨n1, M1, E1⟩) (ed2 : bareD ⟨b2, A2, e2⟩ = ⟨n2, M2, E2⟩)
    (h0 : -9223372036854775808 ≤ e0 ∧ e0 ≤ 9223372036854775807) (h4 : -9223372036854775808 ≤ e2 ∧ e2 ≤ 9223372036854775807) (hm : -9223372036854775808 ≤ m ∧ m ≤ 9223372036854775807) (hk : -9223372036854775808 ≤ k ∧ k ≤ 9223372036854775807)
    (o1 : M1 % 2 = 1 ∨ M1 = 0 ∧ n1 = false ∧ E1 = 0) (o2 : M2 % 2 = 1 ∨ M2 = 0 ∧ n2 = false ∧ E2 = 0) (hs1 : signD ⟨n1, M1, E1⟩ = s1) (hs2 : signD ⟨n2, M2, E2⟩ = s2) (hf1 : fitsE E1 = f1) (hf2 : fitsE E2 = f2)
    (hr1 : (fitsE E1 && decide (bitN M1 * m.natAbs ≤ 60000) && decide (E1.natAbs * m.natAbs ≤ 60000)) = r1) (hr2 : (fitsE E2 && decide (bitN M2 * k.natAbs ≤ 60000) && decide (E2.natAbs * k.natAbs ≤ 60000)) = r2) :
    ∃ c e : Int, (∀ (w : World) (v u : Value), Num w v A → Num w u A2 → Tab w → Calls Tryd.prog 53 #[.agg #[.bool b0, v, .int .i64 e0], .int .i64 m, .agg #[.bool b2, u, .int .i64 e2], .int .i64 k] w (fun r w' => r = .returned (.tuple #[.int .i64 c, .int .i64 e]) ∧ Below w.heap.size w w')) ∧
      ((f1 = false ∨ f2 = false ∨ s1 ≤ 0 ∨ s2 ≤ 0 ∨ k < 1) ∧ c = 0 ∧ e = 1 ∨
        (f1 = true ∧ f2 = true ∧ 0 < s1 ∧ 0 < s2 ∧ 1 ≤ k) ∧ ((r1 && r2) = false ∧ c = 0 ∧ e = 2 ∨
          (r1 = true ∧ r2 = true ∧ e = 0 ∧ -1 ≤ c ∧ c ≤ 1 ∧ n1 = false ∧ n2 = false ∧ M1 ≠ 0 ∧ M2 ≠ 0) ∧ ∃ k1 K : Nat, (m.natAbs = k1 ∧ k = K ∧ 1 ≤ K ∧ bitN M1 * k1 ≤ 60000 ∧ E1.natAbs * k1 ≤ 60000 ∧ bitN M2 * K ≤ 60000 ∧ E2.natAbs * K ≤ 60000) ∧
            (0 ≤ m → cmpM ⟨false, M1 ^ k1, E1 * k1⟩ ⟨false, M2 ^ K, E2 * K⟩ = c) ∧ (m < 0 → cmpM ⟨false, 1, 0⟩ ⟨false, M1 ^ k1 * M2 ^ K, E1 * k1 + E2 * K⟩ = c))) := by
  have g1 := (signD_bare ed).trans hs1
  have g2 := (signD_bare ed2).trans hs2
  by_cases hbad : f1 = false ∨ f2 = false ∨ s1 ≤ 0 ∨ s2 ≤ 0 ∨ k < 1
  · exact ⟨0, 1, fun w v u h h' hT => rCmp_arg h h' hT h0.1 h0.2 h4.1 h4.2 ed ed2 g1 g2 (by rw [hf1, hf2]; exact hbad), .inl ⟨hbad, rfl, rfl⟩⟩
  · have t1 : f1 = true := by cases f1; exact absurd (.inl rfl) hbad; rfl
    have t2 : f2 = true := by cases f2; exact absurd (.inr (.inl rfl)) hbad; rfl
    have t3 : 0 < s1 := by have := fun h => hbad (.inr (.inr (.inl h))); omega
    have t4 : 0 < s2 := by have := fun h => hbad (.inr (.inr (.inr (.inl h)))); omega
    have t5 : 1 ≤ k := by have := fun h => hbad (.inr (.inr (.inr (.inr h)))); omega
    clear hbad
    subst t1 t2
    rw [hf1, Bool.true_and] at hr1
    rw [hf2, Bool.true_and] at hr2
    by_cases hr : (r1 && r2) = false
    · exact ⟨0, 2, fun w v u h h' hT => rCmp_long h h' hT h0.1 h0.2 h4.1 h4.2 ed ed2 hf1 hf2 g1 g2 t3 t4 t5 hk.2 hm.1 hm.2 hr1 hr2 hr, .inr ⟨⟨rfl, rfl, t3, t4, t5⟩, .inl ⟨hr, rfl, rfl⟩⟩⟩
    · obtain ⟨u1, u2⟩ : r1 = true ∧ r2 = true := by
        rw [Bool.not_eq_false, Bool.and_eq_true] at hr
        exact hr
      subst u1 u2
      rw [Bool.and_eq_true, decide_eq_true_eq, decide_eq_true_eq] at hr1 hr2
      obtain ⟨K, rfl⟩ : ∃ K : Nat, k = K := ⟨k.toNat, by omega⟩
      rw [Int.natAbs_natCast] at hr2
      obtain ⟨v1, v2⟩ := sign_pos (hs1.symm ▸ t3)
      obtain ⟨v3, v4⟩ := sign_pos (hs2.symm ▸ t4)
      obtain ⟨v5, v6⟩ := sign_pos (g1.symm ▸ t3)
      obtain ⟨v7, v8⟩ := sign_pos (g2.symm ▸ t4)
      subst v1 v3 v5 v7
      have p1 : M1 % 2 = 1 := by rcases o1 with h | h; exact h; exact absurd h.1 v2
      have p2 : M2 % 2 = 1 := by rcases o2 with h | h; exact h; exact absurd h.1 v4
      have hbp := bitN_pos v2
      have hk1 : m.natAbs ≤ 60000 := Nat.le_trans (Nat.le_mul_of_pos_left _ hbp) hr1.1
      have hcc : ∀ c : Int, (0 ≤ m → cmpM ⟨false, M1 ^ m.natAbs, E1 * (m.natAbs : Nat)⟩ ⟨false, M2 ^ K, E2 * (K : Nat)⟩ = c) → (m < 0 → cmpM ⟨false, 1, 0⟩ ⟨false, M1 ^ m.natAbs * M2 ^ K, E1 * (m.natAbs : Nat) + E2 * (K : Nat)⟩ = c) → -1 ≤ c ∧ c ≤ 1 := by
        intro c q1 q2
        by_cases h : 0 ≤ m
        · rw [← q1 h]; exact cmpN_range _ _
        · rw [← q2 (by omega)]; exact cmpN_range _ _
      obtain ⟨c, q1, q2⟩ : ∃ c : Int, (0 ≤ m → cmpM ⟨false, M1 ^ m.natAbs, E1 * (m.natAbs : Nat)⟩ ⟨false, M2 ^ K, E2 * (K : Nat)⟩ = c) ∧ (m < 0 → cmpM ⟨false, 1, 0⟩ ⟨false, M1 ^ m.natAbs * M2 ^ K, E1 * (m.natAbs : Nat) + E2 * (K : Nat)⟩ = c) := by
        by_cases h : 0 ≤ m
        · exact ⟨_, fun _ => rfl, fun h' => by omega⟩
        · exact ⟨_, fun h' => absurd h' h, fun _ => rfl⟩
      obtain ⟨q3, q4⟩ := hcc c q1 q2
      exact ⟨c, 0, fun w v u h h' hT => rCmp_ok h h' hT h0.1 h0.2 h4.1 h4.2 ed ed2 hf1 hf2 v6 v8 p1 p2 rfl (by omega) (by omega) (by omega) hr1.1 hr1.2 hr2.1 hr2.2 rfl rfl rfl rfl q1 q2,
        .inr ⟨⟨rfl, rfl, t3, t4, t5⟩, .inr ⟨⟨rfl, rfl, rfl, q3, q4, rfl, rfl, v2, v4⟩, m.natAbs, K, ⟨rfl, rfl, by omega, hr1.1, hr1.2, hr2.1, hr2.2⟩, q1, q2⟩⟩⟩
end Go.Proofs.YtabdmnjdmnnejaaDoor
