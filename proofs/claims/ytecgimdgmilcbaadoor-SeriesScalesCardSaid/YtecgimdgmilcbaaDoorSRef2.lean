/- planimeterref12.Atanh by its contract. Conditions: the numbers are short, the fraction at most 1. -/
import Derived.Test.YtecgimdgmilcbaaDoorSRef1
namespace Go.Proofs.YtecgimdgmilcbaaDoor
set_option maxRecDepth 100000
open Go.RowKit Go.ChangeShapes Go.WideShapes
set_option linter.unusedVariables false

set_option maxHeartbeats 2000000 in
theorem ratanh_n {w : World} {v u : Value} {A B n : Nat} (h : RdD w v (digs DD A)) (k : RdD w u (digs DD B)) (hn : n ≤ 9080) (sA : bitN A ≤ 4096) (sB : bitN B ≤ 4096) (hB : 0 < B) (hAB : A ≤ B) :
    Calls Tryd.prog 16 #[v, u, .int .i64 n] w (OneD w (digs DD (refAt A B (2 ^ n) (n / 3 + 2)))) := by
  have hR : 0 < 2 ^ n := Nat.two_pow_pos n
  obtain ⟨r, hr⟩ : ∃ r, A * 2 ^ n / B = r := ⟨_, rfl⟩
  obtain ⟨q, hq⟩ : ∃ q, r * r / 2 ^ n = q := ⟨_, rfl⟩
  have rR : r ≤ 2 ^ n := by rw [← hr]; exact Nat.div_le_of_le_mul (Nat.mul_le_mul_right _ hAB)
  have qR : q ≤ 2 ^ n := by rw [← hq]; exact Nat.div_le_of_le_mul (Nat.mul_le_mul rR rR)
  have sr : bitN r ≤ 9094 := Nat.le_trans (bitN_le_pow (n := n) (by omega)) (by omega)
  have sq : bitN q ≤ 9094 := Nat.le_trans (bitN_le_pow (n := n) (by omega)) (by omega)
  have sAn : bitN (A * 2 ^ n) ≤ 13176 := Nat.le_trans (bitN_le.2 (by rw [Nat.pow_add]; exact Nat.mul_lt_mul_of_pos_right (bitN_lt A) hR)) (show bitN A + n ≤ 13176 by omega)
  have srr : bitN (r * r) ≤ 18188 := Nat.le_trans (bitN_mul_le _ _) (by omega)
  obtain ⟨M, hM⟩ : ∃ M, n / 3 + 2 = M := ⟨_, rfl⟩
  have hM2 : M ≤ 3100 := by omega
  have hres : refAt A B (2 ^ n) M = refH (2 ^ n) q M (M + 1) * r / 2 ^ n := by unfold refAt; dsimp only; rw [hr, hq]
  rw [hM, hres]
  have HH := Lib.hid (fun j => refH_size (M := M) hR qR j)
  have HS : Hid (∀ j, j ≤ M + 1 → bitN (refH (2 ^ n) q M j) ≤ 9094) := Lib.hid (fun j hj => by
    have h1 := HH.out j
    have h2 : j * 2 ^ n ≤ 8192 * 2 ^ n := Nat.mul_le_mul_right _ (by omega)
    exact Nat.le_trans (bitN_le_pow (n := n) (by omega)) (by omega))
  have hMI : (n : Int).tdiv 3 + 2 = (M : Int) := by rw [Int.tdiv_eq_ediv_of_nonneg (by omega)]; omega
  have hMJ : (n : Int) / 3 + 2 = (M : Int) := by omega
  have H1 := Lib.hid (rshl_n (n := n) h (by omega))
  have HD : Hid (∀ W x, RdD W x (digs DD (A * 2 ^ n)) → RdD W u (digs DD B) → Calls Tryd.prog 42 #[x, u] W (TwoD W r (A * 2 ^ n % B))) := Lib.hid (fun W x h1 h2 => by
    rw [← hr]; exact rdiv_any h1 h2 (digsDlen (by omega)) hB)
  have HM : Hid (∀ W x, RdD W x (digs DD (r * r)) → Calls Tryd.prog 43 #[x, .int .i64 n] W (OneD W (digs DD q))) := Lib.hid (fun W x h1 => rshift_n h1 hq (by omega) (by omega))
  have HK := Lib.hid k
  clear hr hq rR qR hres hM h k
  go_enter Tryd.func16, Tryd.ntmps16
  go_wp2_with
  (first
    | (go_at_call 21; (with_reducible refine (H1.out).mono ?_); rintro e w1 ⟨vs1, rfl, s1, hb1⟩; have B1 := hb1; have k1 := HK.out.below hb1)
    | (go_at_call 42; (with_reducible refine (HD.out _ _ s1 k1).mono ?_); rintro e w2 ⟨vr, vm, rfl, r2, m2, hb2⟩; have B2 := B1.trans (hb2.mono B1.size); have k2 := k1.below hb2; have s2 := s1.below hb2; clear k1 s1)
    | (go_at_call 20; (with_reducible refine (rmul_n r2 r2 rfl (by omega) (by omega)).mono ?_); rintro e w3 ⟨vp3, rfl, p3, hb3⟩; have B3 := B2.trans (hb3.mono B2.size); have k3 := k2.below hb3; have s3 := s2.below hb3; have r3 := r2.below hb3; have m3 := m2.below hb3; clear k2 s2 r2 m2)
    | (go_at_call 43; (with_reducible refine (HM.out _ _ p3).mono ?_); rintro e w4 ⟨vq4, rfl, q4, hb4⟩; have B4 := B3.trans (hb4.mono B3.size); have k4 := k3.below hb4; have s4 := s3.below hb4; have r4 := r3.below hb4; have m4 := m3.below hb4; have p4 := p3.below hb4; clear k3 s3 r3 m3 p3)
    | fail)
  have HST := Lib.hid (And.intro q4 (And.intro r4 B4))
  clear q4 r4 B4 m4 p4 s4 k4
  go_loopw [10, 11] (fun o i wr => ∃ t : Nat, i = .int .i64 ((t : Int) - 1) ∧ t ≤ M + 1 ∧ RdD wr o (digs DD (refH (2 ^ n) q M (M + 1 - t))) ∧ RdD wr vq4 (digs DD q) ∧ RdD wr vr (digs DD r) ∧ Below w.heap.size w wr) (fun _ i _ => (intOf i + 1).toNat)
  case atStart =>
    refine ⟨M + 1, ?_, Nat.le_refl _, ?_, HST.out⟩
    · congr 1; omega
    · rw [Nat.sub_self, show refH (2 ^ n) q M 0 = 0 from rfl, digs_zero]
      exact Rd.nil _ _
  case round =>
    clear HST
    obtain ⟨t, rfl, ht, hO, qr, rr, Br⟩ := hrel
    by_cases hgo : 0 < t
    · obtain ⟨j, rfl⟩ : ∃ j, t = j + 1 := ⟨t - 1, by omega⟩
      have e1 : (((j + 1 : Nat) : Int) - 1) = (j : Int) := by omega
      rw [e1]
      obtain ⟨i, hi⟩ : ∃ i, M + 1 - (j + 1) = i := ⟨_, rfl⟩
      have hj : M - i = j := by omega
      have hstep := Lib.hid (show refH (2 ^ n) q M (M + 1 - j) = 2 ^ n / (2 * j + 1) + refH (2 ^ n) q M i * q / 2 ^ n by
        rw [show M + 1 - j = i + 1 by omega, refH_succ, hj])
      have b1 := HS.out i (by omega)
      rw [hi] at hO
      have d1 : decide ((0 : Int) ≤ (j : Int)) = true := decide_eq_true (by omega)
      obtain ⟨nn, hnn⟩ : ∃ nn, 2 * j + 1 = nn := ⟨_, rfl⟩
      rw [hnn] at hstep
      have wa : IntKind.i64.wrap (2 * (j : Int)) = 2 * (j : Int) := by rw [IntKind.wrap_i64]; omega
      have wb : IntKind.i64.wrap (2 * (j : Int) + 1) = (nn : Int) := by rw [IntKind.wrap_i64]; omega
      have wc : IntKind.u64.wrap (nn : Int) = (nn : Int) := by rw [IntKind.wrap_u64]; omega
      have wd : IntKind.i64.wrap ((j : Int) - 1) = (j : Int) - 1 := by rw [IntKind.wrap_i64]; omega
      have hnb : nn < BB := by rw [show BB = 18446744073709551616 from rfl]; omega
      have hnp : 0 < nn := by omega
      have sR : bitN (1 * 2 ^ n) ≤ 9094 := Nat.le_trans (bitN_le_pow (n := n) (by omega)) (by omega)
      have b2 : bitN (2 ^ n / nn) ≤ 9094 := Nat.le_trans (bitN_mono (Nat.div_le_self _ _)) (by rw [Nat.one_mul] at sR; exact sR)
      have b3 : bitN (refH (2 ^ n) q M i * q) ≤ 18188 := Nat.le_trans (bitN_mul_le _ _) (by omega)
      have b4 : bitN (refH (2 ^ n) q M i * q / 2 ^ n) ≤ 18188 := Nat.le_trans (bitN_mono (Nat.div_le_self _ _)) b3
      generalize refH (2 ^ n) q M i = X at *
      have HDV : Hid (∀ W x y, RdD W x (digs DD (1 * 2 ^ n)) → RdD W y (digs DD nn) → Calls Tryd.prog 42 #[x, y] W (TwoD W (2 ^ n / nn) (1 * 2 ^ n % nn))) := Lib.hid (fun W x y h1 h2 => by
        have := rdiv_any h1 h2 (digsDlen (by omega)) hnp
        rw [Nat.one_mul] at this ⊢
        exact this)
      have HSH : Hid (∀ W x, RdD W x (digs DD (X * q)) → Calls Tryd.prog 43 #[x, .int .i64 n] W (OneD W (digs DD (X * q / 2 ^ n)))) := Lib.hid (fun W x h1 => rshift_n h1 rfl (by omega) (by omega))
      have HNN : Hid (∀ W, Calls Tryd.prog 23 #[.int .u64 (nn : Int)] W (OneD W (digs DD nn))) := Lib.hid (fun W => num_any hnb)
      clear HS HH hi hnn
      go_wp2_with
      (first
        | (go_at_call 23; (with_reducible refine (rnum_k1).mono ?_); rintro e w5 ⟨vo5, rfl, o5, hb5⟩; have B5 := Br.trans (hb5.mono Br.size); have O5 := hO.below hb5; have q5 := qr.below hb5; have r5 := rr.below hb5; clear hO qr rr)
        | (go_at_call 21; (with_reducible refine (rshl_n (n := n) o5 (by rw [bitN_one]; omega)).mono ?_); rintro e w6 ⟨vs6, rfl, s6, hb6⟩; have B6 := B5.trans (hb6.mono B5.size); have O6 := O5.below hb6; have q6 := q5.below hb6; have r6 := r5.below hb6; have o6 := o5.below hb6; clear O5 q5 r5 o5)
        | (go_at_call 23; (with_reducible refine (HNN.out _).mono ?_); rintro e w7 ⟨vd7, rfl, d7, hb7⟩; have B7 := B6.trans (hb7.mono B6.size); have O7 := O6.below hb7; have q7 := q6.below hb7; have r7 := r6.below hb7; have o7 := o6.below hb7; have s7 := s6.below hb7; clear O6 q6 r6 o6 s6)
        | (go_at_call 42; (with_reducible refine (HDV.out _ _ _ s7 d7).mono ?_); rintro e w8 ⟨vr, vm, rfl, c8, m8, hb8⟩; have B8 := B7.trans (hb8.mono B7.size); have O8 := O7.below hb8; have q8 := q7.below hb8; have r8 := r7.below hb8; have o8 := o7.below hb8; have s8 := s7.below hb8; have d8 := d7.below hb8; clear O7 q7 r7 o7 s7 d7)
        | (go_at_call 20; (with_reducible refine (rmul_n O8 q8 rfl (by omega) (by omega)).mono ?_); rintro e w9 ⟨vp9, rfl, p9, hb9⟩; have B9 := B8.trans (hb9.mono B8.size); have O9 := O8.below hb9; have q9 := q8.below hb9; have r9 := r8.below hb9; have o9 := o8.below hb9; have s9 := s8.below hb9; have d9 := d8.below hb9; have c9 := c8.below hb9; have m9 := m8.below hb9; clear O8 q8 r8 o8 s8 d8 c8 m8)
        | (go_at_call 43; (with_reducible refine (HSH.out _ _ p9).mono ?_); rintro e w10 ⟨vz10, rfl, z10, hb10⟩; have B10 := B9.trans (hb10.mono B9.size); have O10 := O9.below hb10; have q10 := q9.below hb10; have r10 := r9.below hb10; have o10 := o9.below hb10; have s10 := s9.below hb10; have d10 := d9.below hb10; have c10 := c9.below hb10; have m10 := m9.below hb10; have p10 := p9.below hb10; clear O9 q9 r9 o9 s9 d9 c9 m9 p9)
        | (go_at_call 10; (with_reducible refine (radd_n c10 z10 rfl (by omega) (by omega)).mono ?_); rintro e w11 ⟨vy11, rfl, y11, hb11⟩; have B11 := B10.trans (hb11.mono B10.size); have O11 := O10.below hb11; have q11 := q10.below hb11; have r11 := r10.below hb11; have o11 := o10.below hb11; have s11 := s10.below hb11; have d11 := d10.below hb11; have c11 := c10.below hb11; have m11 := m10.below hb11; have p11 := p10.below hb11; have z11 := z10.below hb11; clear O10 q10 r10 o10 s10 d10 c10 m10 p10 z10)
        | fail)
      go_round
      case rel => exact ⟨j, by first | rfl | go_num, by omega, by rw [hstep.out]; exact y11, q11, r11, B11⟩
      case measure => (simp [intOf]) <;> omega
    · obtain rfl : t = 0 := by omega
      have b1 := HS.out (M + 1) (by omega)
      rw [Nat.sub_zero] at hO
      have b3 : bitN (refH (2 ^ n) q M (M + 1) * r) ≤ 18188 := Nat.le_trans (bitN_mul_le _ _) (by omega)
      clear HS HH
      generalize refH (2 ^ n) q M (M + 1) = X at *
      have HSH : Hid (∀ W x, RdD W x (digs DD (X * r)) → Calls Tryd.prog 43 #[x, .int .i64 n] W (OneD W (digs DD (X * r / 2 ^ n)))) := Lib.hid (fun W x h1 => rshift_n h1 rfl (by omega) (by omega))
      go_wp2_with
      (first
        | (go_at_call 20; (with_reducible refine (rmul_n hO rr rfl (by omega) (by omega)).mono ?_); rintro e w5 ⟨vp5, rfl, p5, hb5⟩; have B5 := Br.trans (hb5.mono Br.size); have O5 := hO.below hb5; have q5 := qr.below hb5; have r5 := rr.below hb5; clear hO qr rr)
        | (go_at_call 43; (with_reducible refine (HSH.out _ _ p5).mono ?_); rintro e w6 ⟨vz6, rfl, z6, hb6⟩; have B6 := B5.trans (hb6.mono B5.size); have O6 := O5.below hb6; have q6 := q5.below hb6; have r6 := r5.below hb6; have p6 := p5.below hb6; clear O5 q5 r5 p5)
        | fail)
      go_ret
      exact ⟨_, rfl, z6, B6⟩
end Go.Proofs.YtecgimdgmilcbaaDoor
