/- planimeterref12.Exp by its contract. Conditions: the number is at most 1. -/
import Derived.Test.YthmaoohjhnpamaaGreatDoorSerC
import Derived.Test.YthmaoohjhnpamaaGreatDoorSerG
namespace Go.Proofs.YthmaoohjhnpamaaGreatDoor
set_option maxRecDepth 100000
open Go.RowKit Go.ChangeShapes Go.WideShapes
set_option linter.unusedVariables false

theorem bitN_small {n : Nat} (h : n < 65536) : bitN n ≤ 16 := bitN_le.2 h
theorem bitN_le_pow2 {x n : Nat} (hx : x ≤ 16384 * 2 ^ n) : bitN x ≤ n + 15 := bitN_le.2 (by
  have := Nat.two_pow_pos n
  rw [Nat.pow_add]; omega)
theorem one_shl (n : Nat) : 1 * 2 ^ n = 2 ^ n := Nat.one_mul _

set_option maxHeartbeats 4000000 in
theorem rexp_n {w : World} {v : Value} {A n : Nat} (h : RdD w v (digs DD A)) (hn : n ≤ 9080) (hA : A ≤ 2 ^ n) :
    Calls Tryz.prog 32 #[v, .int .i64 n] w fun e w' => ∃ m u, n + 8 ≤ exB (m + 1) ∧ m ≤ n + 8 ∧ e = .returned u ∧ RdD w' u (digs DD (refExp A (2 ^ n) (m + 1))) ∧ Below w.heap.size w w' := by
  have hR : 0 < 2 ^ n := Nat.two_pow_pos n
  have sR : bitN (2 ^ n) ≤ 9094 := Nat.le_trans (bitN_le_pow (n := n) (by omega)) (by omega)
  have sA : bitN A ≤ 9094 := Nat.le_trans (bitN_le_pow (n := n) (by omega)) (by omega)
  have HSH : Hid (∀ w v, RdD w v (digs DD 1) → Calls Tryz.prog 30 #[v, .int .i64 n] w (OneD w (digs DD (2 ^ n)))) := Lib.hid (fun w v h => by
    have := rshl_n (n := n) h (by rw [bitN_one]; omega)
    rwa [one_shl] at this)
  have HH := Lib.hid (fun N j => rexH_size (R := 2 ^ n) (a := A) (N := N) hR hA j)
  have HK := Lib.hid h
  clear h
  go_enter Tryz.func32, Tryz.ntmps32
  go_wp2_with
  (first
    | (go_at_call 48; (with_reducible refine (rnum_k1).mono ?_); rintro e w1 ⟨vo1, rfl, o1, hb1⟩; have B1 := hb1; have k1 := HK.out.below hb1)
    | (go_at_call 30; (with_reducible refine (HSH.out _ _ o1).mono ?_); rintro e w2 ⟨vs2, rfl, s2, hb2⟩; have B2 := B1.trans (hb2.mono B1.size); have k2 := k1.below hb2; have o2 := o1.below hb2; clear k1 o1)
    | fail)
  have HST := Lib.hid (And.intro s2 (And.intro k2 B2))
  have wn8 : IntKind.i64.wrap ((n : Int) + 8) = (n : Int) + 8 := by rw [IntKind.wrap_i64]; omega
  clear o2 s2 k2 B2 HSH
  go_loopw [6, 7] (fun i b wr => ∃ m : Nat, i = .int .i64 ((m : Int) + 1) ∧ b = .int .i64 (exB (m + 1) : Int) ∧ m ≤ n + 8 ∧ exB (m + 1) ≤ n + 30 ∧ RdD wr vs2 (digs DD (2 ^ n)) ∧ RdD wr v (digs DD A) ∧ Below w.heap.size w wr) (fun i _ _ => 20000 - (intOf i).toNat)
  case atStart => exact ⟨0, rfl, by rw [exB_one]; rfl, by omega, by rw [exB_one]; omega, HST.out⟩
  case round =>
    obtain ⟨m, rfl, rfl, hm, hb, So, Ko, Bo⟩ := hrel
    clear HST
    by_cases hgo : exB (m + 1) < n + 8
    · obtain ⟨x, hx⟩ : ∃ x, exB (m + 1) = x := ⟨_, rfl⟩
      obtain ⟨y, hy⟩ : ∃ y, bitN (m + 2) = y := ⟨_, rfl⟩
      have hmx : m ≤ x := by rw [← hx]; exact exB_ge m
      have hxy := exB_succ (n := m + 1) (by omega)
      have y2 : y ≤ 16 := by rw [← hy]; exact bitN_small (by omega)
      rw [show m + 1 + 1 = m + 2 by omega, hx, hy] at hxy
      rw [hx] at hgo ⊢
      have Hy := Lib.hid hy
      have Hxy := Lib.hid hxy
      have d1 : decide ((x : Int) < (n : Int) + 8) = true := decide_eq_true (by omega)
      obtain ⟨M, hM⟩ : ∃ M, m + 2 = M := ⟨_, rfl⟩
      have w1 : IntKind.i64.wrap ((m : Int) + 1 + 1) = (M : Int) := by rw [IntKind.wrap_i64]; omega
      have w3 : IntKind.u64.wrap (M : Int) = (M : Int) := by rw [IntKind.wrap_u64]; omega
      obtain ⟨z, hz⟩ : ∃ z, x + y = z := ⟨_, rfl⟩
      have w4 : IntKind.i64.wrap ((x : Int) + (y : Int)) = (z : Int) := by rw [IntKind.wrap_i64]; omega
      have w5 : IntKind.i64.wrap ((z : Int) - 1) = (z : Int) - 1 := by rw [IntKind.wrap_i64]; omega
      have HNN : Hid (∀ W, Calls Tryz.prog 48 #[.int .u64 (M : Int)] W (OneD W (digs DD M))) := Lib.hid (fun W => num_any (by rw [show BB = 18446744073709551616 from rfl]; omega))
      rw [hM] at Hy
      have hz1 : ((z : Int) - 1) = (exB (m + 1 + 1) : Int) := by
        have h1 := exB_succ (n := m + 1) (by omega)
        rw [hx, show m + 1 + 1 = m + 2 by omega, hM] at h1
        rw [hM] at hy
        rw [hy] at h1
        rw [show m + 1 + 1 = m + 2 by omega, hM]
        omega
      have hb2 : exB (m + 1 + 1) ≤ n + 30 := by omega
      have Hz1 := Lib.hid hz1
      have Hb2 := Lib.hid hb2
      have HM := Lib.hid hM
      clear hx hy hM hxy Hxy hz1 hb2 hz HH
      go_wp2_with
      (first
        | (go_at_call 48; (with_reducible refine (HNN.out _).mono ?_); rintro e w5 ⟨vo5, rfl, o5, hb5⟩; have B5 := Bo.trans (hb5.mono Bo.size); have s5 := So.below hb5; have k5 := Ko.below hb5; clear So Ko)
        | (go_at_call 25; (with_reducible refine (rbits_n o5 Hy.out (by rw [Hy.out]; omega)).mono ?_); rintro e w6 ⟨rfl, rfl⟩)
        | fail)
      go_round
      case rel =>
        refine ⟨m + 1, ?_, ?_, by omega, Hb2.out, s5, k5, B5⟩
        · have := HM.out; congr 1; omega
        · rw [← Hz1.out]
      case measure => have := HM.out; (simp [intOf]) <;> omega
    · have hge : n + 8 ≤ exB (m + 1) := by omega
      have Hge := Lib.hid hge
      obtain ⟨x, hx⟩ : ∃ x, exB (m + 1) = x := ⟨_, rfl⟩
      rw [hx] at hgo hb ⊢
      have d1 : decide ((x : Int) < (n : Int) + 8) = false := decide_eq_false (by omega)
      clear hge hx hgo
      obtain ⟨N, hN⟩ : ∃ N, m + 1 = N := ⟨_, rfl⟩
      have w1 : ((m : Int) + 1) = (N : Int) := by omega
      rw [w1]
      have Hfin : Hid (∀ u w', RdD w' u (digs DD (rexH (2 ^ n) A N N)) → Below w.heap.size w w' → ∃ m u', n + 8 ≤ exB (m + 1) ∧ m ≤ n + 8 ∧ Ending.returned u = .returned u' ∧ RdD w' u' (digs DD (refExp A (2 ^ n) (m + 1))) ∧ Below w.heap.size w w') := Lib.hid (fun u w' h1 h2 => ⟨m, u, Hge.out, hm, rfl, by rw [hN]; exact h1, h2⟩)
      have hN2 : N ≤ n + 9 := by omega
      clear hN w1 Hge
      go_wp2_with fail
      have HST := Lib.hid (And.intro So (And.intro Ko Bo))
      have S0 := Lib.hid So
      clear So Ko Bo
      go_loopw [6, 8] (fun i o wr => ∃ t : Nat, i = .int .i64 (t : Int) ∧ t ≤ N ∧ RdD wr o (digs DD (rexH (2 ^ n) A N (N - t))) ∧ RdD wr vs2 (digs DD (2 ^ n)) ∧ RdD wr v (digs DD A) ∧ Below w.heap.size w wr) (fun i _ _ => (intOf i).toNat)
      case atStart => exact ⟨N, rfl, Nat.le_refl _, by rw [Nat.sub_self]; exact S0.out, HST.out⟩
      case round =>
        clear HST S0
        obtain ⟨t, rfl, ht, hO, So, Ko, Bo⟩ := hrel
        by_cases hgo : 0 < t
        · obtain ⟨j, rfl⟩ : ∃ j, t = j + 1 := ⟨t - 1, by omega⟩
          obtain ⟨i, hi⟩ : ∃ i, N - (j + 1) = i := ⟨_, rfl⟩
          have hstep := Lib.hid (show rexH (2 ^ n) A N (N - j) = 2 ^ n + rexH (2 ^ n) A N i * A / 2 ^ n / (j + 1) by
            rw [show N - j = i + 1 by omega, rexH_succ, show N - i = j + 1 by omega])
          have b1 : bitN (rexH (2 ^ n) A N i) ≤ 9110 := by
            have h1 := HH.out N i
            exact Nat.le_trans (bitN_le_pow2 (n := n) (Nat.le_trans h1 (Nat.mul_le_mul_right _ (by omega)))) (by omega)
          rw [hi] at hO
          obtain ⟨nn, hnn⟩ : ∃ nn, j + 1 = nn := ⟨_, rfl⟩
          rw [hnn] at hstep ⊢
          have d2 : decide ((1 : Int) ≤ (nn : Int)) = true := decide_eq_true (by omega)
          have wc : IntKind.u64.wrap (nn : Int) = (nn : Int) := by rw [IntKind.wrap_u64]; omega
          have wd : IntKind.i64.wrap ((nn : Int) - 1) = (nn : Int) - 1 := by rw [IntKind.wrap_i64]; omega
          have hnb : nn < BB := by rw [show BB = 18446744073709551616 from rfl]; omega
          have hnp : 0 < nn := by omega
          generalize rexH (2 ^ n) A N i = X at *
          obtain ⟨P, hP⟩ : ∃ P, X * A = P := ⟨_, rfl⟩
          have sP : bitN P ≤ 18220 := by rw [← hP]; exact Nat.le_trans (bitN_mul_le _ _) (by omega)
          obtain ⟨Q, hQ⟩ : ∃ Q, P / 2 ^ n = Q := ⟨_, rfl⟩
          have sQ : bitN Q ≤ 18220 := by rw [← hQ]; exact Nat.le_trans (bitN_mono (Nat.div_le_self _ _)) sP
          obtain ⟨U, hU⟩ : ∃ U, Q / nn = U := ⟨_, rfl⟩
          have sU : bitN U ≤ 18220 := by rw [← hU]; exact Nat.le_trans (bitN_mono (Nat.div_le_self _ _)) sQ
          rw [hP, hQ, hU] at hstep
          have HP := Lib.hid hP
          have HSF : Hid (∀ W x, RdD W x (digs DD P) → Calls Tryz.prog 72 #[x, .int .i64 n] W (OneD W (digs DD Q))) := Lib.hid (fun W x h1 => rshift_n h1 hQ (by omega) (by omega))
          have HDV : Hid (∀ W x y, RdD W x (digs DD Q) → RdD W y (digs DD nn) → Calls Tryz.prog 73 #[x, y] W (TwoD W U (Q % nn))) := Lib.hid (fun W x y h1 h2 => by
            rw [← hU]; exact rdiv_any h1 h2 (digsDlen (by omega)) hnp)
          have HNN : Hid (∀ W, Calls Tryz.prog 48 #[.int .u64 (nn : Int)] W (OneD W (digs DD nn))) := Lib.hid (fun W => num_any hnb)
          have HI := Lib.hid hnn
          clear HH hi hnn hP hQ hU Hfin
          go_wp2_with
          (first
            | (go_at_call 69; (with_reducible refine (rmul_n hO Ko HP.out (by omega) (by omega)).mono ?_); rintro e w5 ⟨vp5, rfl, p5, hb5⟩; have B5 := Bo.trans (hb5.mono Bo.size); have O5 := hO.below hb5; have s5 := So.below hb5; have k5 := Ko.below hb5; clear hO So Ko)
            | (go_at_call 72; (with_reducible refine (HSF.out _ _ p5).mono ?_); rintro e w6 ⟨vz6, rfl, z6, hb6⟩; have B6 := B5.trans (hb6.mono B5.size); have O6 := O5.below hb6; have s6 := s5.below hb6; have k6 := k5.below hb6; have p6 := p5.below hb6; clear O5 s5 k5 p5)
            | (go_at_call 48; (with_reducible refine (HNN.out _).mono ?_); rintro e w7 ⟨vd7, rfl, d7, hb7⟩; have B7 := B6.trans (hb7.mono B6.size); have O7 := O6.below hb7; have s7 := s6.below hb7; have k7 := k6.below hb7; have p7 := p6.below hb7; have z7 := z6.below hb7; clear O6 s6 k6 p6 z6)
            | (go_at_call 73; (with_reducible refine (HDV.out _ _ _ z7 d7).mono ?_); rintro e w8 ⟨vr, vm, rfl, c8, m8, hb8⟩; have B8 := B7.trans (hb8.mono B7.size); have O8 := O7.below hb8; have s8 := s7.below hb8; have k8 := k7.below hb8; have p8 := p7.below hb8; have z8 := z7.below hb8; have d8 := d7.below hb8; clear O7 s7 k7 p7 z7 d7)
            | (go_at_call 57; (with_reducible refine (radd_n s8 c8 rfl (by omega) (by omega)).mono ?_); rintro e w9 ⟨vy9, rfl, y9, hb9⟩; have B9 := B8.trans (hb9.mono B8.size); have O9 := O8.below hb9; have s9 := s8.below hb9; have k9 := k8.below hb9; have p9 := p8.below hb9; have z9 := z8.below hb9; have d9 := d8.below hb9; have c9 := c8.below hb9; have m9 := m8.below hb9; clear O8 s8 k8 p8 z8 d8 c8 m8)
            | fail)
          go_round
          case rel => exact ⟨j, by have := HI.out; congr 1; omega, by omega, by rw [hstep.out]; exact y9, s9, k9, B9⟩
          case measure => have := HI.out; (simp [intOf]) <;> omega
        · obtain rfl : t = 0 := by omega
          rw [Nat.sub_zero] at hO
          have R := Hfin.out
          go_wp2_with fail
          go_ret
          exact R _ _ hO Bo
end Go.Proofs.YthmaoohjhnpamaaGreatDoor
