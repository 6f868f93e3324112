/- ExpsTell returns true and leaves what was there: the walk. Conditions: the argument is of at most 1048576 limbs; math/bits' table stands in its variable. (Only in the seat of ExpsTell: set expsz; printed by wip/gen/gen_etell.py.) -/
import Derived.Test.YthmaoohjhnpamaaGreatDoorET1
import Derived.Test.YthmaoohjhnpamaaGreatDoorET2
import Derived.Test.YthmaoohjhnpamaaGreatDoorRE3
import Derived.Test.YthmaoohjhnpamaaGreatDoorEp5
namespace Go.Proofs.YthmaoohjhnpamaaGreatDoor.PETell
set_option maxRecDepth 100000
open Go.RowKit Go.Proofs.YthmaoohjhnpamaaGreatDoor
set_option linter.unusedVariables false
set_option linter.unusedSimpArgs false

theorem val_1024 {n : Bool} {M : Nat} {E tp : Int} (h : ¬ (M ≠ 0 ∧ 9 < tp)) (ht : topD ⟨n, M, E⟩ = tp) : -1024 < qv ⟨n, M, E⟩ ∧ qv ⟨n, M, E⟩ < 1024 := by
  have h1 : (M : Rat) * pw E < 1024 := by
    by_cases h0 : M = 0
    · rw [h0]
      have : ((0 : Nat) : Rat) * pw E = 0 := Rat.zero_mul _
      rw [this]; decide
    · unfold topD at ht
      dsimp only at ht
      have hb : (M : Rat) < ((2 ^ bitN M : Nat) : Rat) := Rat.natCast_lt_natCast.2 (bitN_lt M)
      have hp := pw_pos E
      have h2 := Rat.mul_lt_mul_of_pos_right hb hp
      rw [← pw_nat, ← pw_add] at h2
      have h3 : pw ((bitN M : Int) + E) ≤ pw 10 := pw_mono (by have : ¬ 9 < tp := fun h' => h ⟨h0, h'⟩
                                                               omega)
      have h4 : pw 10 = 1024 := by
        have := pw_nat 10
        rw [show ((10 : Nat) : Int) = 10 from rfl] at this
        rw [this]; decide +kernel
      rw [h4] at h3
      grind
  have h5 : 0 ≤ (M : Rat) * pw E := Rat.mul_nonneg (rq_nat_nonneg M) (Rat.le_of_lt (pw_pos E))
  cases n
  · rw [qv_pos]; constructor <;> grind
  · rw [qv_neg]; constructor <;> grind
theorem exp_told3 {d lo hi : Dn} {s m Mu N : Nat} {k k' : Int} (o : ExpV d lo hi s k) (hm : 88 ≤ m) (hm2 : m ≤ 480) (h : TwoLeft (qv d) (((refTwoU m * 2 : Nat) : Rat) * pw (-(m : Int))) m k' Mu) (h1 : m + 8 ≤ exB (N + 1)) (hN : N ≤ m + 8) :
    bitN (refExp Mu (2 ^ m) (N + 1)) ≤ 200000 ∧ -4294967296 ≤ k' - (m : Int) ∧ k' - (m : Int) ≤ 4294967296 ∧ Mid 10000 ⟨false, refExp Mu (2 ^ m) (N + 1), k' - (m : Int)⟩ ∧ Mid 10000 ⟨false, 2 ^ 40, topD ⟨false, refExp Mu (2 ^ m) (N + 1), k' - (m : Int)⟩ - (m : Int)⟩ ∧ -1000000 ≤ topD ⟨false, refExp Mu (2 ^ m) (N + 1), k' - (m : Int)⟩ ∧ topD ⟨false, refExp Mu (2 ^ m) (N + 1), k' - (m : Int)⟩ ≤ 1000000 ∧
    qv lo ≤ qv ⟨false, refExp Mu (2 ^ m) (N + 1), k' - (m : Int)⟩ + qv ⟨false, 2 ^ 40, topD ⟨false, refExp Mu (2 ^ m) (N + 1), k' - (m : Int)⟩ - (m : Int)⟩ ∧ qv ⟨false, refExp Mu (2 ^ m) (N + 1), k' - (m : Int)⟩ + -qv ⟨false, 2 ^ 40, topD ⟨false, refExp Mu (2 ^ m) (N + 1), k' - (m : Int)⟩ - (m : Int)⟩ ≤ qv hi := by
  obtain ⟨⟨f1, f2⟩, hR, hR2⟩ := exp_holds (T := 0) o hm hm2 h h1 hN rfl
  have hk := h.1
  have hb : bitN (refExp Mu (2 ^ m) (N + 1)) ≤ m + 2 := by
    refine bitN_le.2 (Nat.lt_of_le_of_lt hR ?_)
    rw [Nat.pow_add, Nat.mul_comm]
    exact Nat.mul_lt_mul_of_pos_left (by decide) (Nat.two_pow_pos m)
  have ht : topD ⟨false, refExp Mu (2 ^ m) (N + 1), k' - (m : Int)⟩ = (bitN (refExp Mu (2 ^ m) (N + 1)) : Int) - 1 + (k' - (m : Int)) := rfl
  have h40 : bitN (2 ^ 40) = 41 := bitN_two_pow 40
  refine ⟨by omega, by omega, by omega, ⟨by dsimp only; omega, by dsimp only; omega, by dsimp only; omega⟩, ⟨by dsimp only; omega, by dsimp only; omega, by dsimp only; omega⟩, by omega, by omega, f1, f2⟩

theorem thin_num {s N : Nat} {k : Int} (hs : s ≤ 300) (hk : k.natAbs ≤ 16384) (h : 8 * s + 131 + 3 * k.natAbs * (2 * s + 128) = N) : N < BB ∧ 0 < N ∧ N ≤ 100000000 := by
  have h1 : 3 * k.natAbs * (2 * s + 128) ≤ 3 * 16384 * 728 := Nat.mul_le_mul (Nat.mul_le_mul_left _ hk) (by omega)
  have : BB = 18446744073709551616 := rfl
  generalize 3 * k.natAbs * (2 * s + 128) = x at *
  omega

theorem thin_wrap {S N : Nat} {k : Int} (hs : S ≤ 300) (hk : k.natAbs ≤ 16384) (h : 8 * S + 131 + 3 * k.natAbs * (2 * S + 128) = N) :
    IntKind.u64.wrap (IntKind.u64.wrap (IntKind.i64.wrap (IntKind.i64.wrap (8 * (S : Int)) + 131)) + IntKind.u64.wrap (IntKind.u64.wrap (3 * IntKind.u64.wrap (max k (IntKind.i64.wrap (-k)))) * IntKind.u64.wrap (IntKind.i64.wrap (IntKind.i64.wrap (2 * (S : Int)) + 128)))) = (N : Int) := by
  obtain ⟨-, -, hN⟩ := thin_num hs hk h
  have e1 : IntKind.i64.wrap (8 * (S : Int)) = 8 * (S : Int) := by rw [IntKind.wrap_i64]; omega
  have e2 : IntKind.i64.wrap (8 * (S : Int) + 131) = ((8 * S + 131 : Nat) : Int) := by rw [IntKind.wrap_i64]; omega
  have e3 : IntKind.u64.wrap ((8 * S + 131 : Nat) : Int) = ((8 * S + 131 : Nat) : Int) := by rw [IntKind.wrap_u64]; omega
  have e4 : IntKind.i64.wrap (-k) = -k := by rw [IntKind.wrap_i64]; omega
  have e5 : max k (-k) = ((k.natAbs : Nat) : Int) := by omega
  have e6 : IntKind.u64.wrap ((k.natAbs : Nat) : Int) = ((k.natAbs : Nat) : Int) := by rw [IntKind.wrap_u64]; omega
  have e7 : IntKind.u64.wrap (3 * ((k.natAbs : Nat) : Int)) = ((3 * k.natAbs : Nat) : Int) := by rw [IntKind.wrap_u64]; omega
  have e8 : IntKind.i64.wrap (2 * (S : Int)) = 2 * (S : Int) := by rw [IntKind.wrap_i64]; omega
  have e9 : IntKind.i64.wrap (2 * (S : Int) + 128) = ((2 * S + 128 : Nat) : Int) := by rw [IntKind.wrap_i64]; omega
  have e10 : IntKind.u64.wrap ((2 * S + 128 : Nat) : Int) = ((2 * S + 128 : Nat) : Int) := by rw [IntKind.wrap_u64]; omega
  rw [e1, e2, e3, e4, e5, e6, e7, e8, e9, e10, ← Int.natCast_mul]
  clear e1 e2 e3 e4 e5 e6 e7 e8 e9 e10
  generalize 3 * k.natAbs * (2 * S + 128) = x at *
  have e11 : IntKind.u64.wrap ((x : Nat) : Int) = ((x : Nat) : Int) := by rw [IntKind.wrap_u64]; omega
  rw [e11, ← Int.natCast_add, h]
  clear e11
  rw [IntKind.wrap_u64]; omega

set_option maxRecDepth 100000 in
set_option maxHeartbeats 8000000 in
theorem walk (b0 : Bool) (a0 : Option Addr) (len0 cap0 : Nat) (z0 : List Int) (e0 : Int) (s : Int) (w : World) (hlen : len0 ≤ 1048576) (w0 : IsRow .u64 w a0 len0 cap0 z0) (we : (Lit.int .i64 e0).wf = true) (ws : (Lit.int .i64 s).wf = true) (hT : Tab w) :
    Calls Tryz.prog 3 #[.agg #[.bool b0, .slice a0 len0 cap0, .int .i64 e0], .int .i64 s] w fun e w' => e = .returned (.bool true) ∧ Below w.heap.size w w' := by
  obtain ⟨l, hl, dl, RL, hl64⟩ := w0.nums
  have h2 : -9223372036854775808 ≤ e0 ∧ e0 ≤ 9223372036854775807 := by simpa [Lit.wf, IntKind.min, IntKind.max, IntKind.bits, IntKind.signed] using we
  have h3 : -9223372036854775808 ≤ s ∧ s ≤ 9223372036854775807 := by simpa [Lit.wf, IntKind.min, IntKind.max, IntKind.bits, IntKind.signed] using ws
  clear w0 we ws
  have HFR := Lib.hid (fun w => far14_n (w := w) (n := b0) (a := a0) (ll := len0) (k := cap0) (E := e0) (s := s))
  have HB : NumB w (.slice a0 len0 cap0) (val BB l) := ⟨l, RL, dl, by omega, rfl⟩
  by_cases hbig : 20 < len0
  · obtain ⟨⟨n', M, E⟩, ed⟩ : ∃ d, bareD ⟨b0, val BB l, e0⟩ = d := ⟨_, rfl⟩
    have HN := HB
    have HOF := Lib.hid (fun w v (h : NumB w v (val BB l)) => of14_n h h2.1 h2.2 ed)
    rw [decide_eq_true hbig, Bool.true_or] at HFR
    clear RL dl hl hbig h2 h3 hlen hl64 HB ed
    generalize val BB l = A at *
    go_enter Tryz.func3, Tryz.ntmps3
    go_wp2_with
    (first
      | (go_at_call 4; (with_reducible refine (alive14_any (hT.below (below_alloc _ _))).mono ?_); rintro e w1 ⟨rfl, hb1⟩; have B1 := (below_alloc _ _).trans (hb1.mono (below_alloc _ _).size); have z1 := ((HN.below (below_alloc _ _))).below hb1; have T1 := ((hT.below (below_alloc _ _))).below hb1; have P1 := ((blk_new)).below hb1; obtain ⟨cP0_1, cP1_1, cP2_1, fP0_1, fP1_1, fP2_1, sP_1⟩ := P1.open3)
      | (go_at_call 5; (with_reducible refine (HOF.out _ _ z1).mono ?_); rintro e w2 ⟨vm2, rfl, m2, hb2⟩; have B2 := B1.trans (hb2.mono B1.size); have z2 := z1.below hb2; have T2 := T1.below hb2; have P2 := P1.below hb2; clear z1 T1 P1; clear cP0_1 cP1_1 cP2_1 fP0_1 fP1_1 fP2_1 sP_1; obtain ⟨cP0_2, cP1_2, cP2_2, fP0_2, fP1_2, fP2_2, sP_2⟩ := P2.open3; obtain ⟨am2, km2, rfl, -⟩ := m2.view; try simp only [List.length_nil] at m2)
      | (go_at_call 6; (with_reducible refine (HFR.out _).mono ?_); rintro e w3 ⟨rfl, hb3⟩; have hb3' := (below_a hb3); have B3 := B2.trans (hb3'.mono B2.size); have z3 := z2.below hb3'; have T3 := T2.below hb3'; have P3 := P2.below hb3'; have m3 := m2.below hb3'; clear z2 T2 P2 m2; have Q3 := blk_new.below hb3; clear cP0_2 cP1_2 cP2_2 fP0_2 fP1_2 fP2_2 sP_2; obtain ⟨cP0_3, cP1_3, cP2_3, fP0_3, fP1_3, fP2_3, sP_3⟩ := P3.open3; obtain ⟨cQ0_3, cQ1_3, cQ2_3, fQ0_3, fQ1_3, fQ2_3, sQ_3⟩ := Q3.open3)
      | fail)
    all_goals
      go_ret
      exact ⟨rfl, by assumption⟩

  have sA : bitN (val BB l) ≤ 1280 := val_bitsB dl (by omega)
  rw [decide_eq_false hbig, Bool.false_or] at HFR
  have hR : Num w (.slice a0 len0 cap0) (val BB l) := ⟨l, RL, dl, by omega, rfl⟩
  have hNB : Hid (∀ w v, Num w v (val BB l) → NumB w v (val BB l)) := Lib.hid (fun w v h => by
    obtain ⟨l', h1, h2, h3, h4⟩ := h
    exact ⟨l', h1, h2, by omega, h4.symm⟩)
  clear RL dl hl HB
  generalize val BB l = A at *
  obtain ⟨⟨n', M, E⟩, ed⟩ : ∃ d, bareD ⟨b0, A, e0⟩ = d := ⟨_, rfl⟩
  have sM : bitN M ≤ 1280 := Nat.le_trans (bareD_bits ed) (by omega)
  have hz : M = 0 → E = 0 := fun h => (bareD_zeroM ed h).2
  have HOF := Lib.hid (fun w v (h : Num w v A) => of14_n (hNB.out w v h) h2.1 h2.2 ed)
  obtain ⟨fr, hfr⟩ : ∃ r, (decide (400 < s) && decide (s ≤ 8900)) = r := ⟨_, rfl⟩
  rw [hfr] at HFR
  have HN := hR
  cases fr
  rotate_left
  · clear hbig h2 h3 hlen hl64 ed hfr hz sM sA hNB hR
    go_enter Tryz.func3, Tryz.ntmps3
    go_wp2_with
    (first
      | (go_at_call 4; (with_reducible refine (alive14_any (hT.below (below_alloc _ _))).mono ?_); rintro e w1 ⟨rfl, hb1⟩; have B1 := (below_alloc _ _).trans (hb1.mono (below_alloc _ _).size); have z1 := ((HN.below (below_alloc _ _))).below hb1; have T1 := ((hT.below (below_alloc _ _))).below hb1; have P1 := ((blk_new)).below hb1; obtain ⟨cP0_1, cP1_1, cP2_1, fP0_1, fP1_1, fP2_1, sP_1⟩ := P1.open3)
      | (go_at_call 5; (with_reducible refine (HOF.out _ _ z1).mono ?_); rintro e w2 ⟨vm2, rfl, m2, hb2⟩; have B2 := B1.trans (hb2.mono B1.size); have z2 := z1.below hb2; have T2 := T1.below hb2; have P2 := P1.below hb2; clear z1 T1 P1; clear cP0_1 cP1_1 cP2_1 fP0_1 fP1_1 fP2_1 sP_1; obtain ⟨cP0_2, cP1_2, cP2_2, fP0_2, fP1_2, fP2_2, sP_2⟩ := P2.open3; obtain ⟨am2, km2, rfl, -⟩ := m2.view; try simp only [List.length_nil] at m2)
      | (go_at_call 6; (with_reducible refine (HFR.out _).mono ?_); rintro e w3 ⟨rfl, hb3⟩; have hb3' := (below_a hb3); have B3 := B2.trans (hb3'.mono B2.size); have z3 := z2.below hb3'; have T3 := T2.below hb3'; have P3 := P2.below hb3'; have m3 := m2.below hb3'; clear z2 T2 P2 m2; have Q3 := blk_new.below hb3; clear cP0_2 cP1_2 cP2_2 fP0_2 fP1_2 fP2_2 sP_2; obtain ⟨cP0_3, cP1_3, cP2_3, fP0_3, fP1_3, fP2_3, sP_3⟩ := P3.open3; obtain ⟨cQ0_3, cQ1_3, cQ2_3, fQ0_3, fQ1_3, fQ2_3, sQ_3⟩ := Q3.open3)
      | fail)
    all_goals
      go_ret
      exact ⟨rfl, by assumption⟩

  by_cases h300 : 300 < s
  · have d3 : decide (300 < s) = true := decide_eq_true h300
    clear hbig h2 h3 hlen hl64 ed hfr hz sM sA hNB hR h300
    go_enter Tryz.func3, Tryz.ntmps3
    go_wp2_with
    (first
      | (go_at_call 4; (with_reducible refine (alive14_any (hT.below (below_alloc _ _))).mono ?_); rintro e w1 ⟨rfl, hb1⟩; have B1 := (below_alloc _ _).trans (hb1.mono (below_alloc _ _).size); have z1 := ((HN.below (below_alloc _ _))).below hb1; have T1 := ((hT.below (below_alloc _ _))).below hb1; have P1 := ((blk_new)).below hb1; obtain ⟨cP0_1, cP1_1, cP2_1, fP0_1, fP1_1, fP2_1, sP_1⟩ := P1.open3)
      | (go_at_call 5; (with_reducible refine (HOF.out _ _ z1).mono ?_); rintro e w2 ⟨vm2, rfl, m2, hb2⟩; have B2 := B1.trans (hb2.mono B1.size); have z2 := z1.below hb2; have T2 := T1.below hb2; have P2 := P1.below hb2; clear z1 T1 P1; clear cP0_1 cP1_1 cP2_1 fP0_1 fP1_1 fP2_1 sP_1; obtain ⟨cP0_2, cP1_2, cP2_2, fP0_2, fP1_2, fP2_2, sP_2⟩ := P2.open3; obtain ⟨am2, km2, rfl, -⟩ := m2.view; try simp only [List.length_nil] at m2)
      | (go_at_call 6; (with_reducible refine (HFR.out _).mono ?_); rintro e w3 ⟨rfl, hb3⟩; have hb3' := (below_a hb3); have B3 := B2.trans (hb3'.mono B2.size); have z3 := z2.below hb3'; have T3 := T2.below hb3'; have P3 := P2.below hb3'; have m3 := m2.below hb3'; clear z2 T2 P2 m2; have Q3 := blk_new.below hb3; clear cP0_2 cP1_2 cP2_2 fP0_2 fP1_2 fP2_2 sP_2; obtain ⟨cP0_3, cP1_3, cP2_3, fP0_3, fP1_3, fP2_3, sP_3⟩ := P3.open3; obtain ⟨cQ0_3, cQ1_3, cQ2_3, fQ0_3, fQ1_3, fQ2_3, sQ_3⟩ := Q3.open3)
      | fail)
    all_goals
      go_ret
      exact ⟨rfl, by assumption⟩

  have d3 : decide (300 < s) = false := decide_eq_false h300
  have HRT := Lib.hid (fun w v (h : RdD w v (digs DD M)) => right14_n (n := n') (E := E) (s := s) h (by omega) hz)
  obtain ⟨rt, hrt⟩ : ∃ r, right14 M E s = r := ⟨_, rfl⟩
  rw [hrt] at HRT
  cases rt
  · clear hbig h2 h3 hlen hl64 ed hfr hz sM sA hNB hR h300 hrt
    go_enter Tryz.func3, Tryz.ntmps3
    go_wp2_with
    (first
      | (go_at_call 4; (with_reducible refine (alive14_any (hT.below (below_alloc _ _))).mono ?_); rintro e w1 ⟨rfl, hb1⟩; have B1 := (below_alloc _ _).trans (hb1.mono (below_alloc _ _).size); have z1 := ((HN.below (below_alloc _ _))).below hb1; have T1 := ((hT.below (below_alloc _ _))).below hb1; have P1 := ((blk_new)).below hb1; obtain ⟨cP0_1, cP1_1, cP2_1, fP0_1, fP1_1, fP2_1, sP_1⟩ := P1.open3)
      | (go_at_call 5; (with_reducible refine (HOF.out _ _ z1).mono ?_); rintro e w2 ⟨vm2, rfl, m2, hb2⟩; have B2 := B1.trans (hb2.mono B1.size); have z2 := z1.below hb2; have T2 := T1.below hb2; have P2 := P1.below hb2; clear z1 T1 P1; clear cP0_1 cP1_1 cP2_1 fP0_1 fP1_1 fP2_1 sP_1; obtain ⟨cP0_2, cP1_2, cP2_2, fP0_2, fP1_2, fP2_2, sP_2⟩ := P2.open3; obtain ⟨am2, km2, rfl, -⟩ := m2.view; try simp only [List.length_nil] at m2)
      | (go_at_call 6; (with_reducible refine (HFR.out _).mono ?_); rintro e w3 ⟨rfl, hb3⟩; have hb3' := (below_a hb3); have B3 := B2.trans (hb3'.mono B2.size); have z3 := z2.below hb3'; have T3 := T2.below hb3'; have P3 := P2.below hb3'; have m3 := m2.below hb3'; clear z2 T2 P2 m2; have Q3 := blk_new.below hb3; clear cP0_2 cP1_2 cP2_2 fP0_2 fP1_2 fP2_2 sP_2; obtain ⟨cP0_3, cP1_3, cP2_3, fP0_3, fP1_3, fP2_3, sP_3⟩ := P3.open3; obtain ⟨cQ0_3, cQ1_3, cQ2_3, fQ0_3, fQ1_3, fQ2_3, sQ_3⟩ := Q3.open3)
      | (go_at_call 7; (with_reducible refine (HRT.out _ _ m3).mono ?_); rintro e w4 ⟨rfl, hb4⟩; have B4 := B3.trans (hb4.mono B3.size); have z4 := z3.below hb4; have T4 := T3.below hb4; have P4 := P3.below hb4; have m4 := m3.below hb4; have Q4 := Q3.below hb4; clear z3 T3 P3 m3 Q3; clear cP0_3 cP1_3 cP2_3 fP0_3 fP1_3 fP2_3 sP_3; obtain ⟨cP0_4, cP1_4, cP2_4, fP0_4, fP1_4, fP2_4, sP_4⟩ := P4.open3; clear cQ0_3 cQ1_3 cQ2_3 fQ0_3 fQ1_3 fQ2_3 sQ_3; obtain ⟨cQ0_4, cQ1_4, cQ2_4, fQ0_4, fQ1_4, fQ2_4, sQ_4⟩ := Q4.open3)
      | fail)
    all_goals
      go_ret
      exact ⟨rfl, by assumption⟩

  unfold right14 at hrt
  simp only [Bool.and_eq_true, decide_eq_true_eq] at hrt
  obtain ⟨s1, -, hg⟩ := hrt
  obtain ⟨S, rfl⟩ : ∃ S : Nat, s = (S : Int) := ⟨s.toNat, by omega⟩
  have hS1 : Hid (8 ≤ S) := Lib.hid (by omega)
  have hS2 : Hid (S ≤ 300) := Lib.hid (by omega)
  have hmid := Lib.hid (rightB_mid (n := n') hg hz)
  have rE := (rightB_mid (n := n') hg hz).1
  have rE2 := (rightB_mid (n := n') hg hz).2.1
  dsimp only at rE rE2
  obtain ⟨tp, htp⟩ : ∃ t, topD ⟨n', M, E⟩ = t := ⟨_, rfl⟩
  have HTP := Lib.hid (fun w u (h : RdD w u (digs DD M)) => RTop_n (neg := n') (E := E) h (by omega) (by omega) (by omega))
  rw [htp] at HTP
  have HEX := Lib.hid (fun w v (h : Num w v A) (hT : Tab w) => Exp_t h h hT h2.1 h2.2 ed hg (by omega) hS1.out hS2.out)
  have hg := Lib.hid hg; have htp := Lib.hid htp; have sA := Lib.hid sA; have ed' := Lib.hid ed
  clear hbig h3 hlen hl64 hfr hz sM hNB hR h300 s1 rE rE2
  go_enter Tryz.func3, Tryz.ntmps3
  go_upto_region 6 with
  (first
    | (go_at_call 4; (with_reducible refine (alive14_any (hT.below (below_alloc _ _))).mono ?_); rintro e w1 ⟨rfl, hb1⟩; have B1 := (below_alloc _ _).trans (hb1.mono (below_alloc _ _).size); have z1 := ((HN.below (below_alloc _ _))).below hb1; have T1 := ((hT.below (below_alloc _ _))).below hb1; have P1 := ((blk_new)).below hb1; obtain ⟨cP0_1, cP1_1, cP2_1, fP0_1, fP1_1, fP2_1, sP_1⟩ := P1.open3)
    | (go_at_call 5; (with_reducible refine (HOF.out _ _ z1).mono ?_); rintro e w2 ⟨vm2, rfl, m2, hb2⟩; have B2 := B1.trans (hb2.mono B1.size); have z2 := z1.below hb2; have T2 := T1.below hb2; have P2 := P1.below hb2; clear z1 T1 P1; clear cP0_1 cP1_1 cP2_1 fP0_1 fP1_1 fP2_1 sP_1; obtain ⟨cP0_2, cP1_2, cP2_2, fP0_2, fP1_2, fP2_2, sP_2⟩ := P2.open3; obtain ⟨am2, km2, rfl, -⟩ := m2.view; try simp only [List.length_nil] at m2)
    | (go_at_call 6; (with_reducible refine (HFR.out _).mono ?_); rintro e w3 ⟨rfl, hb3⟩; have hb3' := (below_a hb3); have B3 := B2.trans (hb3'.mono B2.size); have z3 := z2.below hb3'; have T3 := T2.below hb3'; have P3 := P2.below hb3'; have m3 := m2.below hb3'; clear z2 T2 P2 m2; have Q3 := blk_new.below hb3; clear cP0_2 cP1_2 cP2_2 fP0_2 fP1_2 fP2_2 sP_2; obtain ⟨cP0_3, cP1_3, cP2_3, fP0_3, fP1_3, fP2_3, sP_3⟩ := P3.open3; obtain ⟨cQ0_3, cQ1_3, cQ2_3, fQ0_3, fQ1_3, fQ2_3, sQ_3⟩ := Q3.open3)
    | (go_at_call 7; (with_reducible refine (HRT.out _ _ m3).mono ?_); rintro e w4 ⟨rfl, hb4⟩; have B4 := B3.trans (hb4.mono B3.size); have z4 := z3.below hb4; have T4 := T3.below hb4; have P4 := P3.below hb4; have m4 := m3.below hb4; have Q4 := Q3.below hb4; clear z3 T3 P3 m3 Q3; clear cP0_3 cP1_3 cP2_3 fP0_3 fP1_3 fP2_3 sP_3; obtain ⟨cP0_4, cP1_4, cP2_4, fP0_4, fP1_4, fP2_4, sP_4⟩ := P4.open3; clear cQ0_3 cQ1_3 cQ2_3 fQ0_3 fQ1_3 fQ2_3 sQ_3; obtain ⟨cQ0_4, cQ1_4, cQ2_4, fQ0_4, fQ1_4, fQ2_4, sQ_4⟩ := Q4.open3)
    | fail)
  go_cut [6, 7] (fun p6 v7 w' => ∃ p1 k1 f1 p2 k2 f2 ax kx ay ky b6 er, p6 = .pointer (some ⟨b6, 0, none⟩) ∧ v7 = .int .i64 er ∧ Blk w' b6 #[.bool p1, .slice ax (digs BB k1).length kx, .int .i64 f1, .bool p2, .slice ay (digs BB k2).length ky, .int .i64 f2] ∧ RdN w' (.slice ax (digs BB k1).length kx) (digs BB k1) ∧ RdN w' (.slice ay (digs BB k2).length ky) (digs BB k2) ∧ ((er = 0 ∧ ∃ k, ExpT ⟨n', M, E⟩ ⟨p1, k1, f1⟩ ⟨p2, k2, f2⟩ S k) ∨ (er = 1 ∧ S < 40)) ∧ Below w4.heap.size w4 w')
  case first =>
    have Bz4 : Below w4.heap.size w4 w4 := Below.refl _ _
    go_wp2_with
  (first
    | (go_at_call 8; (with_reducible refine (HEX.out _ _ z4 T4).mono ?_); rintro e w11 ⟨p1, k1, f1, p2, k2, f2, vx, vy, er, rfl, ho, x11, y11, hb11⟩; have B11 := Bz4.trans (hb11.mono Bz4.size); have z11 := z4.below hb11; have T11 := T4.below hb11; have P11 := P4.below hb11; clear z4 T4 P4; obtain ⟨cP0_11, cP1_11, cP2_11, fP0_11, fP1_11, fP2_11, sP_11⟩ := P11.open3; obtain ⟨ax11, kx11, rfl, -⟩ := x11.view; (try simp only [List.length_nil] at x11); obtain ⟨ay11, ky11, rfl, -⟩ := y11.view; try simp only [List.length_nil] at y11)
    | fail)
    go_meet
    have hA := below_alloc w11 (.cells #[.bool p1, .slice ax11 (digs BB k1).length kx11, .int .i64 f1, .bool p2, .slice ay11 (digs BB k2).length ky11, .int .i64 f2] 34 (0, 0))
    exact ⟨p1, k1, f1, p2, k2, f2, ax11, kx11, ay11, ky11, _, er, rfl, rfl, blk_new, x11.below hA, y11.below hA, ho, B11.trans (hA.mono B11.size)⟩
  case rest =>
    obtain ⟨p1, k1, f1, p2, k2, f2, ax, kx, ay, ky, b6, er, rfl, rfl, I5, x5, y5, ho, hb⟩ := hcut
    generalize hwx : wc = w5 at *
    clear hwx
    have z5 := z4.below hb; have T5 := T4.below hb; have P5 := P4.below hb; have Q5 := Q4.below hb; have m5 := m4.below hb; have B5 := B4.trans (hb.mono B4.size)
    clear z4 T4 P4 Q4 m4 B4 hb cP0_4 cP1_4 cP2_4 fP0_4 fP1_4 fP2_4 sP_4 cQ0_4 cQ1_4 cQ2_4 fQ0_4 fQ1_4 fQ2_4 sQ_4 HEX
    rcases ho with ⟨rfl, k, o⟩ | ⟨rfl, h40⟩
    rotate_left
    · have d40 : decide ((S : Int) < 40) = true := decide_eq_true (by omega)
      go_wp2_with fail
      all_goals
        go_ret
        exact ⟨rfl, by assumption⟩
    have ov := o.choose_spec.choose_spec.2.2.2
    obtain ⟨sz1, g1, g2⟩ := ov.z1
    obtain ⟨sz2, g3, g4⟩ := ov.z2
    dsimp only at sz1 g1 g2 sz2 g3 g4
    have o := Lib.hid o
    have ov := Lib.hid ov
    obtain ⟨cP0, cP1, cP2, fP0, fP1, fP2, sP⟩ := P5.open3
    obtain ⟨cQ0, cQ1, cQ2, fQ0, fQ1, fQ2, sQ⟩ := Q5.open3
    obtain ⟨cI0, cI1, cI2, cI3, cI4, cI5, fI0, fI1, fI2, fI3, fI4, fI5, sI⟩ := I5.open6
    have HCM := Lib.hid (fun w v u (h : RdN w v (digs BB k1)) (k : RdN w u (digs BB k2)) (hT : Tab w) => Cmp_leq (h.num (by omega)) (k.num (by omega)) hT (by omega) (by omega) (by omega) (by omega) (by omega) (by omega) ov.out.le)
    clear sz1 g1 g2 sz2 g3 g4
    by_cases hT9 : M ≠ 0 ∧ 9 < tp
    · have l0 : ((digs DD M).length : Int) ≠ 0 := by
        have := List.length_pos_iff.2 (fun e => hT9.1 ((digs_nil_iff DD_two _).1 e))
        omega
      have l1 : decide ((0 : Int) < ((digs DD M).length : Int)) = true := decide_eq_true (by omega)
      have l2 : decide (0 < (digs DD M).length) = true := decide_eq_true (by omega)
      have d9 : decide (9 < tp) = true := decide_eq_true hT9.2
      clear l0 hT9
      go_wp2_with
    (first
      | (go_at_call 9; (with_reducible refine (HTP.out _ _ m5).mono ?_); rintro e w21 ⟨rfl, hb21⟩; have B21 := B5.trans (hb21.mono B5.size); have m21 := m5.below hb21; have x21 := x5.below hb21; have y21 := y5.below hb21; have T21 := T5.below hb21; have Q21 := Q5.below hb21; have I21 := I5.below hb21; clear m5 x5 y5 T5 Q5 I5; obtain ⟨cQ0_21, cQ1_21, cQ2_21, fQ0_21, fQ1_21, fQ2_21, sQ_21⟩ := Q21.open3; obtain ⟨cI0_21, cI1_21, cI2_21, cI3_21, cI4_21, cI5_21, fI0_21, fI1_21, fI2_21, fI3_21, fI4_21, fI5_21, sI_21⟩ := I21.open6)
      | (go_at_call 10; (with_reducible refine (HCM.out _ _ _ x21 y21 T21).mono ?_); rintro e w22 ⟨c1, rfl, dc1, dd1, hb22⟩; have B22 := B21.trans (hb22.mono B21.size); have m22 := m21.below hb22; have x22 := x21.below hb22; have y22 := y21.below hb22; have T22 := T21.below hb22; have Q22 := Q21.below hb22; have I22 := I21.below hb22; clear m21 x21 y21 T21 Q21 I21; clear cQ0_21 cQ1_21 cQ2_21 fQ0_21 fQ1_21 fQ2_21 sQ_21; obtain ⟨cQ0_22, cQ1_22, cQ2_22, fQ0_22, fQ1_22, fQ2_22, sQ_22⟩ := Q22.open3; clear cI0_21 cI1_21 cI2_21 cI3_21 cI4_21 cI5_21 fI0_21 fI1_21 fI2_21 fI3_21 fI4_21 fI5_21 sI_21; obtain ⟨cI0_22, cI1_22, cI2_22, cI3_22, cI4_22, cI5_22, fI0_22, fI1_22, fI2_22, fI3_22, fI4_22, fI5_22, sI_22⟩ := I22.open6)
      | fail)
      all_goals
        go_ret
        exact ⟨rfl, by assumption⟩
    clear HCM
    go_upto_region 9 with fail
    go_cut [54] (fun v w' => v = .bool false ∧ Below w5.heap.size w5 w')
    case first =>
      have Bz5 : Below w5.heap.size w5 w5 := Below.refl _ _
      by_cases h0 : M = 0
      · have hn0 : (digs DD M).length = 0 := by rw [h0, digs_zero]; rfl
        have l1 : decide ((0 : Int) < ((digs DD M).length : Int)) = false := decide_eq_false (by omega)
        have l2 : decide (0 < (digs DD M).length) = false := decide_eq_false (by omega)
        clear hT9 h0 hn0
        go_wp2_with fail
        go_meet
        exact ⟨rfl, Below.refl _ _⟩
      · have l0 : ((digs DD M).length : Int) ≠ 0 := by
          have := List.length_pos_iff.2 (fun e => h0 ((digs_nil_iff DD_two _).1 e))
          omega
        have l1 : decide ((0 : Int) < ((digs DD M).length : Int)) = true := decide_eq_true (by omega)
        have l2 : decide (0 < (digs DD M).length) = true := decide_eq_true (by omega)
        have d9 : decide (9 < tp) = false := decide_eq_false (fun h => hT9 ⟨h0, h⟩)
        clear l0 hT9 h0
        go_wp2_with
      (first
        | (go_at_call 9; (with_reducible refine (HTP.out _ _ m5).mono ?_); rintro e w21 ⟨rfl, hb21⟩; have B21 := Bz5.trans (hb21.mono Bz5.size); have m21 := m5.below hb21; have Q21 := Q5.below hb21; clear m5 Q5; obtain ⟨cQ0_21, cQ1_21, cQ2_21, fQ0_21, fQ1_21, fQ2_21, sQ_21⟩ := Q21.open3)
        | fail)
        go_meet
        exact ⟨rfl, by assumption⟩
    case rest =>
      obtain ⟨rfl, hb⟩ := hcut
      generalize hwx : wc = w6 at *
      clear hwx cP0 cP1 cP2 fP0 fP1 fP2 sP cQ0 cQ1 cQ2 fQ0 fQ1 fQ2 sQ cI0 cI1 cI2 cI3 cI4 cI5 fI0 fI1 fI2 fI3 fI4 fI5 sI
      have z6 := z5.below hb; have T6 := T5.below hb; have P6 := P5.below hb; have Q6 := Q5.below hb; have m6 := m5.below hb; have x6 := x5.below hb; have y6 := y5.below hb; have I6 := I5.below hb; have B6 := B5.trans (hb.mono B5.size)
      clear z5 T5 P5 Q5 m5 x5 y5 I5 B5 hb HTP
      obtain ⟨v1, v2⟩ := val_1024 hT9 htp.out
      obtain ⟨ka, mLo, mHi⟩ := ov.out.mid v1 v2 hS2.out
      have HX := Lib.hid (fun w u (h : RdD w u (digs DD M)) => RExp14_n (m := S + 80) h hmid.out v1 v2 (by omega) (by have := hS2.out; omega))
      obtain ⟨m, hm⟩ : ∃ m : Nat, S + 80 = m := ⟨_, rfl⟩
      rw [hm] at HX
      have wm : IntKind.i64.wrap ((S : Int) + 80) = (m : Int) := by have := hS2.out; rw [IntKind.wrap_i64]; omega
      have hm8 : 88 ≤ m ∧ m ≤ 380 := by have := hS2.out; have := hS1.out; omega
      have hm8 := Lib.hid hm8
      have HTX := Lib.hid (fun w u Mu N k' (h : RdD w u (digs DD (refExp Mu (2 ^ m) (N + 1)))) (hs : bitN (refExp Mu (2 ^ m) (N + 1)) ≤ 200000) (h1 : -4294967296 ≤ k' - (m : Int)) (h2 : k' - (m : Int) ≤ 4294967296) => RTop_n (neg := false) (E := k' - (m : Int)) h hs h1 h2)
      have HSP := Lib.hid (fun w v (h : Num w v A) (hT : Tab w) => Split_t h h hT h2.1 h2.2 ed hg.out (by have := sA.out; omega) hS1.out hS2.out o.out)
      clear hm hT9
      have sz6 := Lib.hid (fun (Mu N : Nat) (k' : Int) (h : TwoLeft (qv ⟨n', M, E⟩) (((refTwoU m * 2 : Nat) : Rat) * pw (-(m : Int))) m k' Mu ∧ m + 8 ≤ exB (N + 1) ∧ N ≤ m + 8) => exp_told3 ov.out hm8.out.1 (by have := hm8.out; omega) h.1 h.2.1 h.2.2)
      obtain ⟨cP0, cP1, cP2, fP0, fP1, fP2, sP⟩ := P6.open3
      obtain ⟨cQ0, cQ1, cQ2, fQ0, fQ1, fQ2, sQ⟩ := Q6.open3
      obtain ⟨cI0, cI1, cI2, cI3, cI4, cI5, fI0, fI1, fI2, fI3, fI4, fI5, sI⟩ := I6.open6
      go_upto_region 15 with
    (first
      | (go_at_call 11; (with_reducible refine (HX.out _ _ m6).mono ?_); rintro e w31 ⟨kd, Mu, Nd, vr, rfl, hr, r31, hb31⟩; have B31 := B6.trans (hb31.mono B6.size); have m31 := m6.below hb31; have x31 := x6.below hb31; have y31 := y6.below hb31; have z31 := z6.below hb31; have T31 := T6.below hb31; have P31 := P6.below hb31; have Q31 := Q6.below hb31; have I31 := I6.below hb31; clear m6 x6 y6 z6 T6 P6 Q6 I6; obtain ⟨cP0_31, cP1_31, cP2_31, fP0_31, fP1_31, fP2_31, sP_31⟩ := P31.open3; obtain ⟨cQ0_31, cQ1_31, cQ2_31, fQ0_31, fQ1_31, fQ2_31, sQ_31⟩ := Q31.open3; obtain ⟨cI0_31, cI1_31, cI2_31, cI3_31, cI4_31, cI5_31, fI0_31, fI1_31, fI2_31, fI3_31, fI4_31, fI5_31, sI_31⟩ := I31.open6; obtain ⟨ar31, kr31, rfl, -⟩ := r31.view; (try simp only [List.length_nil] at r31); have hsz := Lib.hid (sz6.out Mu Nd kd hr))
      | (go_at_call 9; (with_reducible refine (HTX.out _ _ _ _ _ (r31.below (below_alloc _ _)) hsz.out.1 hsz.out.2.1 hsz.out.2.2.1).mono ?_); rintro e w32 ⟨rfl, hb32⟩; have hb32' := (below_a hb32); have B32 := B31.trans (hb32'.mono B31.size); have m32 := m31.below hb32'; have x32 := x31.below hb32'; have y32 := y31.below hb32'; have z32 := z31.below hb32'; have T32 := T31.below hb32'; have P32 := P31.below hb32'; have Q32 := Q31.below hb32'; have I32 := I31.below hb32'; have r32 := r31.below hb32'; clear m31 x31 y31 z31 T31 P31 Q31 I31 r31; have X32 := blk_new.below hb32; clear cP0_31 cP1_31 cP2_31 fP0_31 fP1_31 fP2_31 sP_31; obtain ⟨cP0_32, cP1_32, cP2_32, fP0_32, fP1_32, fP2_32, sP_32⟩ := P32.open3; clear cQ0_31 cQ1_31 cQ2_31 fQ0_31 fQ1_31 fQ2_31 sQ_31; obtain ⟨cQ0_32, cQ1_32, cQ2_32, fQ0_32, fQ1_32, fQ2_32, sQ_32⟩ := Q32.open3; clear cI0_31 cI1_31 cI2_31 cI3_31 cI4_31 cI5_31 fI0_31 fI1_31 fI2_31 fI3_31 fI4_31 fI5_31 sI_31; obtain ⟨cI0_32, cI1_32, cI2_32, cI3_32, cI4_32, cI5_32, fI0_32, fI1_32, fI2_32, fI3_32, fI4_32, fI5_32, sI_32⟩ := I32.open6; obtain ⟨cX0_32, cX1_32, cX2_32, fX0_32, fX1_32, fX2_32, sX_32⟩ := X32.open3)
      | (go_at_call 12; (with_reducible refine (HSP.out _ _ z32 T32).mono ?_); rintro e w33 ⟨va, vb, rfl, hb33⟩; have B33 := B32.trans (hb33.mono B32.size); have m33 := m32.below hb33; have x33 := x32.below hb33; have y33 := y32.below hb33; have z33 := z32.below hb33; have T33 := T32.below hb33; have P33 := P32.below hb33; have Q33 := Q32.below hb33; have I33 := I32.below hb33; have r33 := r32.below hb33; have X33 := X32.below hb33; clear m32 x32 y32 z32 T32 P32 Q32 I32 r32 X32; clear cP0_32 cP1_32 cP2_32 fP0_32 fP1_32 fP2_32 sP_32; obtain ⟨cP0_33, cP1_33, cP2_33, fP0_33, fP1_33, fP2_33, sP_33⟩ := P33.open3; clear cQ0_32 cQ1_32 cQ2_32 fQ0_32 fQ1_32 fQ2_32 sQ_32; obtain ⟨cQ0_33, cQ1_33, cQ2_33, fQ0_33, fQ1_33, fQ2_33, sQ_33⟩ := Q33.open3; clear cI0_32 cI1_32 cI2_32 cI3_32 cI4_32 cI5_32 fI0_32 fI1_32 fI2_32 fI3_32 fI4_32 fI5_32 sI_32; obtain ⟨cI0_33, cI1_33, cI2_33, cI3_33, cI4_33, cI5_33, fI0_33, fI1_33, fI2_33, fI3_33, fI4_33, fI5_33, sI_33⟩ := I33.open6; clear cX0_32 cX1_32 cX2_32 fX0_32 fX1_32 fX2_32 sX_32; obtain ⟨cX0_33, cX1_33, cX2_33, fX0_33, fX1_33, fX2_33, sX_33⟩ := X33.open3)
      | fail)
      have o' := o
      obtain ⟨h5a, h5b, h5c, mX, mF, tp1, tp2, f1, f2⟩ := hsz.out
      obtain ⟨tq, htq⟩ : ∃ t, topD ⟨false, refExp Mu (2 ^ m) (Nd + 1), kd - (m : Int)⟩ = t := ⟨_, rfl⟩
      rw [htq] at mF tp1 tp2 f1 f2 ⊢
      have HOF2 := Lib.hid (fun w => ROff14_n (w := w) (m := m) (t := tq) (by have := hm8.out; omega) tp1 tp2)
      have HHO := Lib.hid (fun w x y u v (h : RdN w x (digs BB k1)) (h' : RdN w y (digs BB k2)) (g : RdD w u (digs DD (refExp Mu (2 ^ m) (Nd + 1)))) (g' : RdD w v (digs DD (2 ^ 40))) => lholds_n h h' g g' ov.out.b1 ov.out.b2 mLo mHi mX mF f1 f2)
      obtain ⟨NN, hNN⟩ : ∃ N, 8 * S + 131 + 3 * k.natAbs * (2 * S + 128) = N := ⟨_, rfl⟩
      have hth := ov.out.thin
      rw [hNN] at hth
      have nN := thin_num hS2.out ka hNN
      have HTH := Lib.hid (fun w x y (h : RdN w x (digs BB k1)) (h' : RdN w y (digs BB k2)) (hT : Tab w) => lthin_z h h' hT mLo mHi ov.out.le hth nN.1 nN.2.1 (show -19000 ≤ (S : Int) - k by have := hS2.out; omega) (show (S : Int) - k ≤ 19000 by have := hS2.out; omega))
      have Dw : Below w33.heap.size w33 w33.drew := below_drewN (Below.refl _ _) 1
      have xd := x33.below Dw; have yd := y33.below Dw; have rd := r33.below Dw; have Td := T33.below Dw; have Id := I33.below Dw; have Xd := X33.below Dw; have Bd := B33.trans (Dw.mono B33.size)
      have zd := Lib.hid (And.intro (cells46 Id) (cells33 Xd))
      have wSk : IntKind.i64.wrap ((S : Int) - k) = (S : Int) - k := by have := hS2.out; rw [IntKind.wrap_i64]; omega
      have hWW := thin_wrap hS2.out ka hNN
      clear HX HTX HSP sz6 hth nN htq h5a h5b h5c mX mF tp1 tp2 f1 f2 hsz mLo mHi ka v1 v2 cP0_33 cP1_33 cP2_33 fP0_33 fP1_33 fP2_33 sP_33 cI0_33 cI1_33 cI2_33 cI3_33 cI4_33 cI5_33 fI0_33 fI1_33 fI2_33 fI3_33 fI4_33 fI5_33 sI_33 cX0_33 cX1_33 cX2_33 fX0_33 fX1_33 fX2_33 sX_33 cQ0_33 cQ1_33 cQ2_33 fQ0_33 fQ1_33 fQ2_33 sQ_33
      go_region_held3 (fun w' => (w'.cell? ⟨b6, 0, none⟩ = some (.bool p1) ∧ w'.cell? ⟨b6, 1, none⟩ = some (.slice ax (digs BB k1).length kx) ∧ w'.cell? ⟨b6, 2, none⟩ = some (.int .i64 f1) ∧ w'.cell? ⟨b6, 3, none⟩ = some (.bool p2) ∧ w'.cell? ⟨b6, 4, none⟩ = some (.slice ay (digs BB k2).length ky) ∧ w'.cell? ⟨b6, 5, none⟩ = some (.int .i64 f2)) ∧ (w'.cell? ⟨w31.heap.size, 0, none⟩ = some (.bool false) ∧ w'.cell? ⟨w31.heap.size, 1, none⟩ = some (.slice ar31 (digs DD (refExp Mu (2 ^ m) (Nd + 1))).length kr31) ∧ w'.cell? ⟨w31.heap.size, 2, none⟩ = some (.int .i64 (kd - (m : Int)))))
        (first | exact zd.out | exact z1.out | exact z2.out | exact z3.out)
        (first
          | (go_at_call 14; (with_reducible refine (HOF2.out _).mono ?_); rintro e q1 ⟨vo, rfl, to1, hz1⟩; have x1 := xd.below hz1; have y1 := yd.below hz1; have r1 := rd.below hz1; have T1 := Td.below hz1; have I1 := Id.below hz1; have X1 := Xd.below hz1; have B1 := Bd.trans (hz1.mono Bd.size); have z1 := Lib.hid (And.intro (cells46 I1) (cells33 X1)))
          | (go_at_call 13; (with_reducible refine (HHO.out _ _ _ _ _ x1 y1 r1 to1).mono ?_); rintro e q2 ⟨rfl, hz2⟩; have x2 := x1.below hz2; have y2 := y1.below hz2; have r2 := r1.below hz2; have T2 := T1.below hz2; have I2 := I1.below hz2; have X2 := X1.below hz2; have B2 := B1.trans (hz2.mono B1.size); have z2 := Lib.hid (And.intro (cells46 I2) (cells33 X2)))
          | (go_at_call 15; (with_reducible refine (HTH.out _ _ _ x2 y2 T2).mono ?_); rintro e q3 ⟨rfl, hz3⟩; have x3 := x2.below hz3; have y3 := y2.below hz3; have r3 := r2.below hz3; have T3 := T2.below hz3; have I3 := I2.below hz3; have X3 := X2.below hz3; have B3 := B2.trans (hz3.mono B2.size); have z3 := Lib.hid (And.intro (cells46 I3) (cells33 X3)))
          | fail)
      all_goals
        go_wp2_with fail
        go_ret
        exact ⟨rfl, by assumption⟩

end Go.Proofs.YthmaoohjhnpamaaGreatDoor.PETell
