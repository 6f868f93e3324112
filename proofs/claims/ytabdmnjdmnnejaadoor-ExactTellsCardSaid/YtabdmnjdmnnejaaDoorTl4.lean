/- planimeterref11.Near by its contract. Conditions: the number is short. -/
import Derived.Test.YtabdmnjdmnnejaaDoorTl3
namespace Go.Proofs.YtabdmnjdmnnejaaDoor
set_option maxRecDepth 100000
open Go.RowKit Go.ChangeShapes Go.WideShapes
set_option linter.unusedVariables false

set_option maxHeartbeats 2000000 in
theorem RNear_n {w : World} {u : Value} {neg : Bool} {M : Nat} {E m K : Int} (h : RdD w u (digs DD M)) (sM : bitN M ≤ 2000) (hK : 1 ≤ K) :
    Calls Tryd.prog 13 #[.agg #[.bool neg, u, .int .i64 E], .int .i64 m, .int .i64 K] w (fun e w' => ∃ r, e = .returned (.bool r) ∧ (r = true → m.natAbs ≤ 60 ∧ K ≤ 40 ∧ bitN M * m.natAbs ≤ 1500 ∧ E.natAbs ≤ 2000) ∧ Below w.heap.size w w') := by
  obtain ⟨a, n, k, rfl⟩ := h.slice
  have d3 : decide (K < 1) = false := decide_eq_false (by omega)
  obtain ⟨b, eb⟩ : ∃ b, bitN M = b := ⟨_, rfl⟩
  have HB := Lib.hid (fun w v (h : RdD w v (digs DD M)) => rbits_n h eb (by omega))
  have P0 := blk_new (w := w) (T := 30) (c := #[.bool neg, .slice a n k, .int .i64 E])
  have B0 := below_alloc w (.cells #[.bool neg, .slice a n k, .int .i64 E] 30 (0, 0))
  have x0 := h.below B0
  have sb : b ≤ 2000 := by omega
  have eb' := Lib.hid eb
  clear h sM hK eb
  by_cases c1 : m < -60
  · have d1 : decide (m < -60) = true := decide_eq_true c1
    clear c1
    go_enter Tryd.func13, Tryd.ntmps13
    go_wp2_with fail
    go_ret
    exact ⟨_, rfl, (fun h => by cases h), B0⟩
  have d1 : decide (m < -60) = false := decide_eq_false c1
  by_cases c2 : 60 < m
  · have d2 : decide (60 < m) = true := decide_eq_true c2
    clear c1 c2
    go_enter Tryd.func13, Tryd.ntmps13
    go_wp2_with fail
    go_ret
    exact ⟨_, rfl, (fun h => by cases h), B0⟩
  have d2 : decide (60 < m) = false := decide_eq_false c2
  by_cases c4 : 40 < K
  · have d4 : decide (40 < K) = true := decide_eq_true c4
    clear c1 c2 c4
    go_enter Tryd.func13, Tryd.ntmps13
    go_wp2_with fail
    go_ret
    exact ⟨_, rfl, (fun h => by cases h), B0⟩
  have d4 : decide (40 < K) = false := decide_eq_false c4
  obtain ⟨p, hp⟩ : ∃ p, (b : Int) * m = p := ⟨_, rfl⟩
  have hpn : p.natAbs = b * m.natAbs := by rw [← hp, Int.natAbs_mul, Int.natAbs_natCast]
  have hpb : p.natAbs ≤ 120000 := by rw [hpn]; exact Nat.le_trans (Nat.mul_le_mul sb (show m.natAbs ≤ 60 by omega)) (by decide)
  have wp : wrap64 p = p := by unfold wrap64; omega
  have wp1 : IntKind.i64.wrap p = p := by rw [IntKind.wrap_i64]; omega
  have hend : (p ≤ 1500 ∧ -1500 ≤ p ∧ -2000 ≤ E ∧ E ≤ 2000) → (m.natAbs ≤ 60 ∧ K ≤ 40 ∧ bitN M * m.natAbs ≤ 1500 ∧ E.natAbs ≤ 2000) := by
    intro ⟨a1, a2, a3, a4⟩
    rw [eb'.out, ← hpn]
    omega
  have hend := Lib.hid hend
  clear c1 c2 c4 hpn hpb sb eb'
  by_cases t1 : p ≤ 1500
  · have s1 : decide (p ≤ 1500) = true := decide_eq_true t1
    by_cases t2 : -1500 ≤ p
    · have s2 : decide (-1500 ≤ p) = true := decide_eq_true t2
      by_cases t3 : -2000 ≤ E
      · have s3 : decide (-2000 ≤ E) = true := decide_eq_true t3
        obtain ⟨r, s4⟩ : ∃ r, decide (E ≤ 2000) = r := ⟨_, rfl⟩
        have hr : r = true → m.natAbs ≤ 60 ∧ K ≤ 40 ∧ bitN M * m.natAbs ≤ 1500 ∧ E.natAbs ≤ 2000 := fun h => hend.out ⟨t1, t2, t3, of_decide_eq_true (s4.trans h)⟩
        have hr := Lib.hid hr
        clear t1 t2 t3 hend
        go_enter Tryd.func13, Tryd.ntmps13
        go_wp2_with
        (first
          | (go_at_call 23; (with_reducible refine (HB.out _ _ x0).mono ?_); rintro e w1 ⟨rfl, rfl⟩)
          | fail)
        go_ret
        exact ⟨_, rfl, hr.out, B0⟩
      · have s3 : decide (-2000 ≤ E) = false := decide_eq_false t3
        clear t1 t2 t3 hend
        go_enter Tryd.func13, Tryd.ntmps13
        go_wp2_with
        (first
          | (go_at_call 23; (with_reducible refine (HB.out _ _ x0).mono ?_); rintro e w1 ⟨rfl, rfl⟩)
          | fail)
        go_ret
        exact ⟨_, rfl, (fun h => by cases h), B0⟩
    · have s2 : decide (-1500 ≤ p) = false := decide_eq_false t2
      clear t1 t2 hend
      go_enter Tryd.func13, Tryd.ntmps13
      go_wp2_with
      (first
        | (go_at_call 23; (with_reducible refine (HB.out _ _ x0).mono ?_); rintro e w1 ⟨rfl, rfl⟩)
        | fail)
      go_ret
      exact ⟨_, rfl, (fun h => by cases h), B0⟩
  · have s1 : decide (p ≤ 1500) = false := decide_eq_false t1
    clear t1 hend
    go_enter Tryd.func13, Tryd.ntmps13
    go_wp2_with
    (first
      | (go_at_call 23; (with_reducible refine (HB.out _ _ x0).mono ?_); rintro e w1 ⟨rfl, rfl⟩)
      | fail)
    go_ret
    exact ⟨_, rfl, (fun h => by cases h), B0⟩
end Go.Proofs.YtabdmnjdmnnejaaDoor
