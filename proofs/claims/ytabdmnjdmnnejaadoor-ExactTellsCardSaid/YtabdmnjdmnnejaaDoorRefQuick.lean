/- planimeterref02.Quick by its contract. Conditions: the power is short. -/
import Derived.Test.YtabdmnjdmnnejaaDoorRefB
namespace Go.Proofs.YtabdmnjdmnnejaaDoor
set_option maxRecDepth 100000
open Go.RowKit Go.ChangeShapes Go.WideShapes

theorem rnum_1 {w : World} : Calls Tryd.prog 24 #[.int .u64 1] w (OneD w (digs DD 1)) := num_any (n := 1) (by decide)

set_option maxHeartbeats 800000 in
theorem rquick_n {A : Nat} : ∀ (k : Nat) {w : World} {v : Value}, RdD w v (digs DD A) → bitN A * k ≤ 300000 → bitN A ≤ 300000 → k ≤ 9223372036854775807 → Calls Tryd.prog 83 #[v, .int .i64 k] w (OneD w (digs DD (A ^ k))) := by
  intro k
  induction k using Nat.strongRecOn with
  | ind k ih =>
    intro w v h hb hA hk
    by_cases h0 : k = 0
    · subst h0
      rw [Nat.pow_zero]
      show Calls Tryd.prog 83 #[v, .int .i64 0] w _
      go_enter Tryd.func83, Tryd.ntmps83
      go_wp2_with
      (first
        | (go_at_call 24; (with_reducible refine (rnum_1).mono ?_); rintro e w1 ⟨vo1, rfl, o1, hb1⟩; have B1 := hb1; have a1 := h.below hb1; clear h)
        | fail)
      go_ret
      exact ⟨_, rfl, by assumption, by assumption⟩
    · have hki : (k : Int) ≠ 0 := by omega
      have hkb : ((k : Int) == 0) = false := beq_false_of_ne hki
      obtain ⟨j, hj⟩ : ∃ j, k / 2 = j := ⟨_, rfl⟩
      obtain ⟨r, hr⟩ : ∃ r, k % 2 = r := ⟨_, rfl⟩
      have hjI : (k : Int).tdiv 2 = (j : Int) := by rw [Int.tdiv_eq_ediv_of_nonneg (by omega)]; omega
      have hrI : (k : Int).tmod 2 = (r : Int) := by rw [Int.tmod_eq_emod_of_nonneg (by omega)]; omega
      have hjw : wrap64 (j : Int) = (j : Int) := by unfold wrap64; omega
      have hjk := Nat.mul_le_mul_left (bitN A) (show j ≤ k by omega)
      have HI := Lib.hid (fun w v (h : RdD w v (digs DD A)) => ih j (by omega) h (by omega) hA (by omega))
      have q1 := bitN_pow_le A j
      have q2 := bitN_mul_le (A ^ j) (A ^ j)
      have sJ : bitN (A ^ j) ≤ 400000 := by omega
      have hk2 : k = 2 * j + r := by omega
      have hr2 : r = 0 ∨ r = 1 := by omega
      have q3 := bitN_pow_le A (2 * j)
      have q4 : bitN A * (2 * j) ≤ bitN A * k := Nat.mul_le_mul_left _ (by omega)
      have hJJ : A ^ j * A ^ j = A ^ (2 * j) := by rw [← Nat.pow_add]; congr 1; omega
      have sJJ : bitN (A ^ (2 * j)) ≤ 400000 := by omega
      have sA : bitN A ≤ 400000 := by omega
      have eJJ := Lib.hid hJJ
      rcases hr2 with rfl | rfl
      · rw [show A ^ k = A ^ (2 * j) by rw [hk2, Nat.add_zero]]
        generalize A ^ (2 * j) = JJ at *
        generalize A ^ j = J at *
        clear ih hJJ q1 q2 q3 q4 hjk hj hr hk2
        go_enter Tryd.func83, Tryd.ntmps83
        go_wp2_with
        (first
          | (go_at_call 83; (with_reducible refine (HI.out _ _ h).mono ?_); rintro e w1 ⟨vh1, rfl, h1, hb1⟩; have B1 := hb1; have a1 := h.below hb1; clear h)
          | (go_at_call 62; (with_reducible refine (rmul_n h1 h1 eJJ.out sJ sJ).mono ?_); rintro e w2 ⟨vg2, rfl, g2, hb2⟩; have B2 := B1.trans (hb2.mono B1.size); have a2 := a1.below hb2; have h2 := h1.below hb2; clear a1 h1)
          | fail)
        go_ret
        exact ⟨_, rfl, by assumption, by assumption⟩
      · have hK : A ^ (2 * j) * A = A ^ k := by rw [hk2, Nat.pow_succ]
        have eK := Lib.hid hK
        generalize A ^ k = K at *
        generalize A ^ (2 * j) = JJ at *
        generalize A ^ j = J at *
        clear ih hJJ q1 q2 q3 q4 hjk hj hr hk2 hK
        go_enter Tryd.func83, Tryd.ntmps83
        go_wp2_with
        (first
          | (go_at_call 83; (with_reducible refine (HI.out _ _ h).mono ?_); rintro e w1 ⟨vh1, rfl, h1, hb1⟩; have B1 := hb1; have a1 := h.below hb1; clear h)
          | (go_at_call 62; (with_reducible refine (rmul_n h1 h1 eJJ.out sJ sJ).mono ?_); rintro e w2 ⟨vg2, rfl, g2, hb2⟩; have B2 := B1.trans (hb2.mono B1.size); have a2 := a1.below hb2; have h2 := h1.below hb2; clear a1 h1)
          | (go_at_call 62; (with_reducible refine (rmul_n g2 a2 eK.out sJJ sA).mono ?_); rintro e w3 ⟨vz3, rfl, z3, hb3⟩; have B3 := B2.trans (hb3.mono B2.size); have a3 := a2.below hb3; have h3 := h2.below hb3; have g3 := g2.below hb3; clear a2 h2 g2)
          | fail)
        go_ret
        exact ⟨_, rfl, by assumption, by assumption⟩
end Go.Proofs.YtabdmnjdmnnejaaDoor
