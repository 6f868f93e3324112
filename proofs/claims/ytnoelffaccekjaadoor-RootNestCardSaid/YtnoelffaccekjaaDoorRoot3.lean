/- root.Halves and root.Order by their contracts. Conditions: the list is short; math/bits' table stands in its variable. -/
import Derived.Test.YtnoelffaccekjaaDoorRoot2
namespace Go.Proofs.YtnoelffaccekjaaDoor
open Go.RowKit Go.ChangeShapes Go.WideShapes

theorem root2_n {w : World} {v : Value} {A R : Nat} {is : Bool} (h : Num w v A) (hT : Tab w) (hA : bitN A ≤ 8192) (hR : IsRoot A 2 R) (his : decide (R ^ 2 = A) = is) :
    Calls Tryd.prog 8 #[v, .int .i64 2] w (RootZ w R is) := root_n (K := 2) h hT hA (by omega) (by omega) hR his

set_option maxHeartbeats 800000 in
theorem halves_n {w : World} {v : Value} {A K H : Nat} {is : Bool} (h : Num w v A) (hT : Tab w) (hA : bitN A ≤ 8192) (hKi : K ≤ 9223372036854775807) (hR : IsRoot A (2 ^ K) H) (his : decide (H ^ 2 ^ K = A) = is) :
    Calls Tryd.prog 19 #[v, .int .i64 K] w (RootZ w H is) := by
  have sA : bitN A ≤ 2560000 := by omega
  have hd1 : decide ((K : Int) < 0) = false := decide_eq_false (by omega)
  obtain ⟨b, hb⟩ : ∃ b, bitN A = b := ⟨_, rfl⟩
  have hd2 : decide (8192 < (b : Int)) = false := decide_eq_false (by omega)
  have eb := Lib.hid hb
  have HR := Lib.hid hR; have HI := Lib.hid his
  clear hb hR his
  go_enter Tryd.func19, Tryd.ntmps19
  go_wp2_with
  (first
    | (go_at_call 23; (with_reducible refine (bare_n h).mono ?_); rintro e w1 ⟨vs1, rfl, s1, hb1⟩; have B1 := hb1; have a1 := h.below hb1; have T1 := hT.below hb1; clear h hT)
    | (go_at_call 21; (with_reducible refine (bits_n (s1.num sA) eb.out).mono ?_); rintro e w2 ⟨rfl, hb2⟩; have B2 := B1.trans (hb2.mono B1.size); have a2 := a1.below hb2; have T2 := T1.below hb2; have s2 := s1.below hb2; clear a1 T1 s1)
    | fail)
  have HST := Lib.hid (And.intro s2 (And.intro B2 T2))
  clear s2 B2 T2 hb1 hb2 a2
  go_loopw [0, 7, 8] (fun x e i wr => ∃ (j C : Nat) (ex : Bool), i = .int .i64 j ∧ j ≤ K ∧ e = .bool ex ∧ Hid (decide (C ^ 2 ^ j = A) = ex) ∧ RdN wr x (digs BB C) ∧ IsRoot A (2 ^ j) C ∧ Below w.heap.size w wr ∧ Tab wr) (fun _ _ i _ => K - (intOf i).toNat)
  case atStart => exact ⟨0, A, true, rfl, Nat.zero_le _, rfl, Lib.hid (by rw [Nat.pow_zero, Nat.pow_one, decide_eq_true rfl]), HST.out.1, by rw [Nat.pow_zero]; exact IsRoot.one A, HST.out.2⟩
  case round =>
    clear HST
    obtain ⟨j, C, ex, rfl, hjK, rfl, HEX, hC, hRC, hB, hT4⟩ := hrel
    have hCA := hRC.le_self (Nat.pow_pos (by omega))
    have q1 := bitN_mono hCA
    have sC : bitN C ≤ 2560000 := by omega
    have hC8 : bitN C ≤ 8192 := by omega
    have HRC := Lib.hid hRC
    by_cases hj : j = K
    · subst hj
      obtain rfl := hRC.uniq HR.out
      have he : ex = is := by rw [← HEX.out, ← HI.out]
      subst he
      have hdj : decide ((j : Int) < (j : Int)) = false := decide_eq_false (by omega)
      clear hRC hCA q1
      go_wp2
      go_ret3
      exact ⟨_, rfl, hC, hB⟩
    · have hdj : decide ((j : Int) < (K : Int)) = true := decide_eq_true (by omega)
      obtain ⟨c, hc⟩ : ∃ c, bitN C = c := ⟨_, rfl⟩
      have ec := Lib.hid hc
      by_cases h1 : 1 < c
      · have hdc : decide (1 < (c : Int)) = true := decide_eq_true (by omega)
        obtain ⟨X, hX⟩ := IsRoot.exists (show 0 < 2 by omega) C
        have HN := Lib.hid (hRC.sq hX)
        obtain ⟨i2, hi2⟩ : ∃ i2, decide (X ^ 2 = C) = i2 := ⟨_, rfl⟩
        have HE : decide (X ^ 2 ^ (j + 1) = A) = (ex && i2) := by
          rw [← HEX.out, ← hi2, decide_eq_decide.2 (sq_exact hRC hX)]
          exact Bool.decide_and ..
        have HE := Lib.hid HE
        have HX := Lib.hid hX; have HI2 := Lib.hid hi2
        clear hRC hCA q1 hc hX hi2
        cases ex
        all_goals
          go_wp2_with
          (first
            | (go_at_call 21; (with_reducible refine (bits_n (hC.num sC) ec.out).mono ?_); rintro e w4 ⟨rfl, hb4⟩; have B4 := hB.trans (hb4.mono hB.size); have x4 := hC.below hb4; have T4 := hT4.below hb4; clear hC hT4)
            | (go_at_call 8; (with_reducible refine (root2_n (x4.num sC) T4 hC8 HX.out HI2.out).mono ?_); rintro e w5 ⟨vy5, rfl, y5, hb5⟩; have B5 := B4.trans (hb5.mono B4.size); have x5 := x4.below hb5; have T5 := T4.below hb5; clear x4 T4)
            | fail)
          go_round
          case rel => exact ⟨j + 1, X, _, by go_num, by omega, rfl, HE, y5, HN.out, B5, T5⟩
          case measure => simp [intOf]; omega
      · have hdc : decide (1 < (c : Int)) = false := decide_eq_false (by omega)
        have hC1 : C ≤ 1 := by
          have := bitN_lt C
          rw [hc] at this
          have h2 := Nat.pow_le_pow_right (n := 2) (by omega) (show c ≤ 1 by omega)
          omega
        obtain ⟨st1, st2⟩ := hRC.stay hC1 hjK
        obtain rfl := st1.uniq HR.out
        have he : ex = is := by rw [← HEX.out, ← HI.out, st2]
        subst he
        clear hRC hCA q1 hc st1 st2
        go_wp2_with
        (first
          | (go_at_call 21; (with_reducible refine (bits_n (hC.num sC) ec.out).mono ?_); rintro e w4 ⟨rfl, hb4⟩; have B4 := hB.trans (hb4.mono hB.size); have x4 := hC.below hb4; have T4 := hT4.below hb4; clear hC hT4)
          | fail)
        go_ret3
        exact ⟨_, rfl, by assumption, by assumption⟩

theorem halves_arg {w : World} {v : Value} {A : Nat} {k : Int} (h : Num w v A) (hk : k < 0) :
    Calls Tryd.prog 19 #[v, .int .i64 k] w (fun e w' => e = .returned (.tuple #[.slice none 0 0, .bool false, .int .i64 1]) ∧ Below w.heap.size w w') := by
  go_enter Tryd.func19, Tryd.ntmps19
  go_wp2_with
  (first
    | (go_at_call 23; (with_reducible refine (bare_n h).mono ?_); rintro e w1 ⟨vs1, rfl, s1, hb1⟩; have B1 := hb1; have a1 := h.below hb1; clear h)
    | fail)
  go_ret3
  exact ⟨rfl, by assumption⟩

set_option maxHeartbeats 800000 in
theorem order_n {w : World} {v : Value} {A M : Nat} (h : Num w v A) (hT : Tab w) (hA0 : A ≠ 0) (hA : bitN A ≤ 8192) (hM : M ≤ 9223372036854775807) :
    Calls Tryd.prog 20 #[v, .int .i64 M] w (fun e w' => ∃ n : Nat, e = .returned (.tuple #[.int .i64 (n : Int), .int .i64 0]) ∧ IsOrder A M n ∧ Below w.heap.size w w') := by
  have sA : bitN A ≤ 2560000 := by omega
  have hd1 : decide ((M : Int) < 0) = false := decide_eq_false (by omega)
  obtain ⟨b, hb⟩ : ∃ b, bitN A = b := ⟨_, rfl⟩
  have hd2 : decide (8192 < (b : Int)) = false := decide_eq_false (by omega)
  have eb := Lib.hid hb
  have hsl : 0 < (digs BB A).length := List.length_pos_iff.2 (fun e => hA0 ((digs_nil_iff BB_two _).1 e))
  have hsn : digs BB A ≠ [] := fun e => hA0 ((digs_nil_iff BB_two _).1 e)
  have hsb : (((digs BB A).length : Int) == 0) = false := beq_false_of_ne (by omega)
  by_cases h1 : b = 1
  · subst h1
    obtain rfl : A = 1 := by
      have := bitN_lt A
      rw [hb] at this; omega
    have HO := IsOrder.one M
    clear hb
    go_enter Tryd.func20, Tryd.ntmps20
    go_wp2_with
    (first
      | (go_at_call 23; (with_reducible refine (bare_n h).mono ?_); rintro e w1 ⟨vs1, rfl, s1, hb1⟩; have B1 := hb1; have a1 := h.below hb1; have T1 := hT.below hb1; clear h hT; obtain ⟨as1, ks1, rfl, -⟩ := s1.view; try simp only [List.length_nil] at s1)
      | (go_at_call 21; (with_reducible refine (bits_n (s1.num sA) eb.out).mono ?_); rintro e w2 ⟨rfl, hb2⟩; have B2 := B1.trans (hb2.mono B1.size); have a2 := a1.below hb2; have T2 := T1.below hb2; have s2 := s1.below hb2; clear a1 T1 s1)
      | (go_at_call 21; (with_reducible refine (bits_n (s2.num sA) eb.out).mono ?_); rintro e w3 ⟨rfl, hb3⟩; have B3 := B2.trans (hb3.mono B2.size); have a3 := a2.below hb3; have T3 := T2.below hb3; have s3 := s2.below hb3; clear a2 T2 s2)
      | fail)
    go_ret2
    exact ⟨_, rfl, HO, by assumption⟩
  · have hbI : (b : Int) ≠ 1 := by omega
    have hbB : ((b : Int) == 1) = false := beq_false_of_ne hbI
    clear hb
    go_enter Tryd.func20, Tryd.ntmps20
    go_wp2_with
    (first
      | (go_at_call 23; (with_reducible refine (bare_n h).mono ?_); rintro e w1 ⟨vs1, rfl, s1, hb1⟩; have B1 := hb1; have a1 := h.below hb1; have T1 := hT.below hb1; clear h hT; obtain ⟨as1, ks1, rfl, -⟩ := s1.view; try simp only [List.length_nil] at s1)
      | (go_at_call 21; (with_reducible refine (bits_n (s1.num sA) eb.out).mono ?_); rintro e w2 ⟨rfl, hb2⟩; have B2 := B1.trans (hb2.mono B1.size); have a2 := a1.below hb2; have T2 := T1.below hb2; have s2 := s1.below hb2; clear a1 T1 s1)
      | (go_at_call 21; (with_reducible refine (bits_n (s2.num sA) eb.out).mono ?_); rintro e w3 ⟨rfl, hb3⟩; have B3 := B2.trans (hb3.mono B2.size); have a3 := a2.below hb3; have T3 := T2.below hb3; have s3 := s2.below hb3; clear a2 T2 s2)
      | fail)
    have HST := Lib.hid (And.intro s3 (And.intro B3 T3))
    clear s3 B3 T3 hb1 hb2 hb3 a3
    go_loopw [0, 30] (fun x i wr => ∃ j C : Nat, i = .int .i64 j ∧ j ≤ M ∧ RdN wr x (digs BB C) ∧ C ^ 2 ^ j = A ∧ Below w.heap.size w wr ∧ Tab wr) (fun _ i _ => M - (intOf i).toNat)
    case atStart => exact ⟨0, A, rfl, Nat.zero_le _, HST.out.1, by rw [Nat.pow_zero, Nat.pow_one], HST.out.2⟩
    case round =>
      clear HST
      obtain ⟨j, C, rfl, hjM, hC, hCA, hB, hT4⟩ := hrel
      by_cases hj : j = M
      · subst hj
        have HO := Lib.hid (IsOrder.full hCA)
        have hdj : decide ((j : Int) < (j : Int)) = false := decide_eq_false (by omega)
        clear hCA
        go_wp2
        go_ret2
        exact ⟨_, rfl, HO.out, hB⟩
      · have hdj : decide ((j : Int) < (M : Int)) = true := decide_eq_true (by omega)
        have hCl : C ≤ A := by
          rw [← hCA]
          exact (show IsRoot (C ^ 2 ^ j) (2 ^ j) C from IsRoot.pow (Nat.pow_pos (by omega))).le_self (Nat.pow_pos (by omega))
        have q1 := bitN_mono hCl
        have sC : bitN C ≤ 2560000 := by omega
        have hC8 : bitN C ≤ 8192 := by omega
        obtain ⟨X, hX⟩ := IsRoot.exists (show 0 < 2 by omega) C
        by_cases hsq : X ^ 2 = C
        · have HN : X ^ 2 ^ (j + 1) = A := by rw [pow_two_succ, hsq, hCA]
          have HN := Lib.hid HN
          have HX := Lib.hid hX; have HI2 := Lib.hid (decide_eq_true hsq)
          clear hCA hCl q1 hX hsq
          go_wp2_with
          (first
            | (go_at_call 8; (with_reducible refine (root2_n (hC.num sC) hT4 hC8 HX.out HI2.out).mono ?_); rintro e w4 ⟨vy4, rfl, y4, hb4⟩; have B4 := hB.trans (hb4.mono hB.size); have x4 := hC.below hb4; have T4 := hT4.below hb4; clear hC hT4)
            | fail)
          go_round
          case rel => exact ⟨j + 1, X, by go_num, by omega, y4, HN.out, B4, T4⟩
          case measure => simp [intOf]; omega
        · have HO := Lib.hid (IsOrder.stop hCA (show j < M by omega) hX hsq)
          have HX := Lib.hid hX; have HI2 := Lib.hid (decide_eq_false hsq)
          clear hCA hCl q1 hX hsq
          go_wp2_with
          (first
            | (go_at_call 8; (with_reducible refine (root2_n (hC.num sC) hT4 hC8 HX.out HI2.out).mono ?_); rintro e w4 ⟨vy4, rfl, y4, hb4⟩; have B4 := hB.trans (hb4.mono hB.size); have x4 := hC.below hb4; have T4 := hT4.below hb4; clear hC hT4)
            | fail)
          go_ret2
          exact ⟨_, rfl, HO.out, by assumption⟩
end Go.Proofs.YtnoelffaccekjaaDoor
