/- planimeterref12's shift, Right, Wide, Atanh by their contracts. Conditions: the numbers are short. -/
import Derived.Test.YtngicppjljbafaaDoorRefShr
import Derived.Test.YtngicppjljbafaaDoorSerG
import Derived.Test.YtngicppjljbafaaDoorSerB
import Derived.Test.YtngicppjljbafaaDoorDyC
import Derived.Test.YtngicppjljbafaaDoorDyA
import Derived.Test.YtngicppjljbafaaDoorValG
namespace Go.Proofs.YtngicppjljbafaaDoor
set_option maxRecDepth 100000
open Go.RowKit Go.ChangeShapes Go.WideShapes
set_option linter.unusedVariables false

theorem rshift_n {w : World} {v : Value} {A n C : Nat} (h : RdD w v (digs DD A)) (e : A / 2 ^ n = C) (sA : bitN A ≤ 300000) (hn : n ≤ 9223372036854775807) :
    Calls Tryd.prog 80 #[v, .int .i64 n] w (OneD w (digs DD C)) := by
  subst e
  have HS := Lib.hid (rshr_n (n := n) h sA hn)
  unfold RShr at HS
  clear h
  go_enter Tryd.func80, Tryd.ntmps80
  go_wp2_with
  (first
    | (go_at_call 36; (with_reducible refine (HS.out).mono ?_); rintro e w1 ⟨vq1, rfl, q1, hb1⟩; have B1 := hb1)
    | fail)
  go_ret
  exact ⟨_, rfl, q1, B1⟩

theorem right_ok {w : World} {s : Nat} (h1 : 8 ≤ s) (h2 : s ≤ 9000) : Calls Tryd.prog 19 #[.int .i64 (s : Int)] w fun e w' => e = .returned (.bool true) ∧ w' = w := by
  have d1 : decide ((8 : Int) ≤ (s : Int)) = true := decide_eq_true (by omega)
  have d2 : decide ((s : Int) ≤ 9000) = true := decide_eq_true (by omega)
  go_enter Tryd.func19, Tryd.ntmps19
  go_wp2
  go_ret
  exact ⟨rfl, rfl⟩
theorem right_no {w : World} {s : Int} (h : s < 8 ∨ 9000 < s) : Calls Tryd.prog 19 #[.int .i64 s] w fun e w' => e = .returned (.bool false) ∧ w' = w := by
  by_cases h1 : s < 8
  · have d1 : decide ((8 : Int) ≤ s) = false := decide_eq_false (by omega)
    clear h
    go_enter Tryd.func19, Tryd.ntmps19
    go_wp2
    go_ret
    exact ⟨rfl, rfl⟩
  · have d1 : decide ((8 : Int) ≤ s) = true := decide_eq_true (by omega)
    have d2 : decide (s ≤ 9000) = false := decide_eq_false (by omega)
    clear h
    go_enter Tryd.func19, Tryd.ntmps19
    go_wp2
    go_ret
    exact ⟨rfl, rfl⟩
theorem rnum_k1 {w : World} : Calls Tryd.prog 17 #[.int .u64 1] w (OneD w (digs DD 1)) := num_any (n := 1) (by decide)
theorem rnum_wide {w : World} : Calls Tryd.prog 17 #[.int .u64 1048576] w (OneD w (digs DD 1048576)) := num_any (n := 1048576) (by decide)
theorem wide_n {w : World} : Calls Tryd.prog 58 #[] w (OneD w (digs DD 1048576)) := by
  go_enter Tryd.func58, Tryd.ntmps58
  go_wp2_with
  (first
    | (go_at_call 17; (with_reducible refine (rnum_wide).mono ?_); rintro e w1 ⟨vq1, rfl, q1, hb1⟩; have B1 := hb1)
    | fail)
  go_ret
  exact ⟨_, rfl, q1, B1⟩

theorem refH_size {R q M : Nat} (hR : 0 < R) (h : q ≤ R) : ∀ j, refH R q M j ≤ j * R
  | 0 => by simp [refH]
  | j + 1 => by
    have h1 := refH_size (M := M) hR h j
    have h2 : R / (2 * (M - j) + 1) ≤ R := Nat.div_le_self _ _
    have h3 : refH R q M j * q / R ≤ refH R q M j := Nat.div_le_of_le_mul (by rw [Nat.mul_comm R]; exact Nat.mul_le_mul_left _ h)
    rw [refH_succ, Nat.add_mul]
    omega
theorem bitN_le_pow {x n : Nat} (hx : x ≤ 8192 * 2 ^ n) : bitN x ≤ n + 14 := bitN_le.2 (by
  have := Nat.two_pow_pos n
  rw [Nat.pow_add]; omega)
end Go.Proofs.YtngicppjljbafaaDoor

/- planimeterref12.Atanh by its contract. Conditions: the numbers are short, the fraction at most 1. -/
namespace Go.Proofs.YtngicppjljbafaaDoor
set_option maxRecDepth 100000
open Go.RowKit Go.ChangeShapes Go.WideShapes
set_option linter.unusedVariables false

set_option maxHeartbeats 2000000 in
theorem ratanh_n {w : World} {v u : Value} {A B n : Nat} (h : RdD w v (digs DD A)) (k : RdD w u (digs DD B)) (hn : n ≤ 9080) (sA : bitN A ≤ 4096) (sB : bitN B ≤ 4096) (hB : 0 < B) (hAB : A ≤ B) :
    Calls Tryd.prog 56 #[v, u, .int .i64 n] w (OneD w (digs DD (refAt A B (2 ^ n) (n / 3 + 2)))) := by
  have hR : 0 < 2 ^ n := Nat.two_pow_pos n
  obtain ⟨r, hr⟩ : ∃ r, A * 2 ^ n / B = r := ⟨_, rfl⟩
  obtain ⟨q, hq⟩ : ∃ q, r * r / 2 ^ n = q := ⟨_, rfl⟩
  have rR : r ≤ 2 ^ n := by rw [← hr]; exact Nat.div_le_of_le_mul (Nat.mul_le_mul_right _ hAB)
  have qR : q ≤ 2 ^ n := by rw [← hq]; exact Nat.div_le_of_le_mul (Nat.mul_le_mul rR rR)
  have sr : bitN r ≤ 9094 := Nat.le_trans (bitN_le_pow (n := n) (by omega)) (by omega)
  have sq : bitN q ≤ 9094 := Nat.le_trans (bitN_le_pow (n := n) (by omega)) (by omega)
  have sAn : bitN (A * 2 ^ n) ≤ 13176 := Nat.le_trans (bitN_le.2 (by rw [Nat.pow_add]; exact Nat.mul_lt_mul_of_pos_right (bitN_lt A) hR)) (show bitN A + n ≤ 13176 by omega)
  have srr : bitN (r * r) ≤ 18188 := Nat.le_trans (bitN_mul_le _ _) (by omega)
  obtain ⟨M, hM⟩ : ∃ M, n / 3 + 2 = M := ⟨_, rfl⟩
  have hM2 : M ≤ 3100 := by omega
  have hres : refAt A B (2 ^ n) M = refH (2 ^ n) q M (M + 1) * r / 2 ^ n := by unfold refAt; dsimp only; rw [hr, hq]
  rw [hM, hres]
  have HH := Lib.hid (fun j => refH_size (M := M) hR qR j)
  have HS : Hid (∀ j, j ≤ M + 1 → bitN (refH (2 ^ n) q M j) ≤ 9094) := Lib.hid (fun j hj => by
    have h1 := HH.out j
    have h2 : j * 2 ^ n ≤ 8192 * 2 ^ n := Nat.mul_le_mul_right _ (by omega)
    exact Nat.le_trans (bitN_le_pow (n := n) (by omega)) (by omega))
  have hMI : (n : Int).tdiv 3 + 2 = (M : Int) := by rw [Int.tdiv_eq_ediv_of_nonneg (by omega)]; omega
  have hMJ : (n : Int) / 3 + 2 = (M : Int) := by omega
  have H1 := Lib.hid (rshl_n (n := n) h (by omega))
  have HD : Hid (∀ W x, RdD W x (digs DD (A * 2 ^ n)) → RdD W u (digs DD B) → Calls Tryd.prog 79 #[x, u] W (TwoD W r (A * 2 ^ n % B))) := Lib.hid (fun W x h1 h2 => by
    rw [← hr]; exact rdiv_any h1 h2 (digsDlen (by omega)) hB)
  have HM : Hid (∀ W x, RdD W x (digs DD (r * r)) → Calls Tryd.prog 80 #[x, .int .i64 n] W (OneD W (digs DD q))) := Lib.hid (fun W x h1 => rshift_n h1 hq (by omega) (by omega))
  have HK := Lib.hid k
  clear hr hq rR qR hres hM h k
  go_enter Tryd.func56, Tryd.ntmps56
  go_wp2_with
  (first
    | (go_at_call 16; (with_reducible refine (H1.out).mono ?_); rintro e w1 ⟨vs1, rfl, s1, hb1⟩; have B1 := hb1; have k1 := HK.out.below hb1)
    | (go_at_call 79; (with_reducible refine (HD.out _ _ s1 k1).mono ?_); rintro e w2 ⟨vr, vm, rfl, r2, m2, hb2⟩; have B2 := B1.trans (hb2.mono B1.size); have k2 := k1.below hb2; have s2 := s1.below hb2; clear k1 s1)
    | (go_at_call 55; (with_reducible refine (rmul_n r2 r2 rfl (by omega) (by omega)).mono ?_); rintro e w3 ⟨vp3, rfl, p3, hb3⟩; have B3 := B2.trans (hb3.mono B2.size); have k3 := k2.below hb3; have s3 := s2.below hb3; have r3 := r2.below hb3; have m3 := m2.below hb3; clear k2 s2 r2 m2)
    | (go_at_call 80; (with_reducible refine (HM.out _ _ p3).mono ?_); rintro e w4 ⟨vq4, rfl, q4, hb4⟩; have B4 := B3.trans (hb4.mono B3.size); have k4 := k3.below hb4; have s4 := s3.below hb4; have r4 := r3.below hb4; have m4 := m3.below hb4; have p4 := p3.below hb4; clear k3 s3 r3 m3 p3)
    | fail)
  have HST := Lib.hid (And.intro q4 (And.intro r4 B4))
  clear q4 r4 B4 m4 p4 s4 k4
  go_loopw [10, 11] (fun o i wr => ∃ t : Nat, i = .int .i64 ((t : Int) - 1) ∧ t ≤ M + 1 ∧ RdD wr o (digs DD (refH (2 ^ n) q M (M + 1 - t))) ∧ RdD wr vq4 (digs DD q) ∧ RdD wr vr (digs DD r) ∧ Below w.heap.size w wr) (fun _ i _ => (intOf i + 1).toNat)
  case atStart =>
    refine ⟨M + 1, ?_, Nat.le_refl _, ?_, HST.out⟩
    · congr 1; omega
    · rw [Nat.sub_self, show refH (2 ^ n) q M 0 = 0 from rfl, digs_zero]
      exact Rd.nil _ _
  case round =>
    clear HST
    obtain ⟨t, rfl, ht, hO, qr, rr, Br⟩ := hrel
    by_cases hgo : 0 < t
    · obtain ⟨j, rfl⟩ : ∃ j, t = j + 1 := ⟨t - 1, by omega⟩
      have e1 : (((j + 1 : Nat) : Int) - 1) = (j : Int) := by omega
      rw [e1]
      obtain ⟨i, hi⟩ : ∃ i, M + 1 - (j + 1) = i := ⟨_, rfl⟩
      have hj : M - i = j := by omega
      have hstep := Lib.hid (show refH (2 ^ n) q M (M + 1 - j) = 2 ^ n / (2 * j + 1) + refH (2 ^ n) q M i * q / 2 ^ n by
        rw [show M + 1 - j = i + 1 by omega, refH_succ, hj])
      have b1 := HS.out i (by omega)
      rw [hi] at hO
      have d1 : decide ((0 : Int) ≤ (j : Int)) = true := decide_eq_true (by omega)
      obtain ⟨nn, hnn⟩ : ∃ nn, 2 * j + 1 = nn := ⟨_, rfl⟩
      rw [hnn] at hstep
      have wa : IntKind.i64.wrap (2 * (j : Int)) = 2 * (j : Int) := by rw [IntKind.wrap_i64]; omega
      have wb : IntKind.i64.wrap (2 * (j : Int) + 1) = (nn : Int) := by rw [IntKind.wrap_i64]; omega
      have wc : IntKind.u64.wrap (nn : Int) = (nn : Int) := by rw [IntKind.wrap_u64]; omega
      have wd : IntKind.i64.wrap ((j : Int) - 1) = (j : Int) - 1 := by rw [IntKind.wrap_i64]; omega
      have hnb : nn < BB := by rw [show BB = 18446744073709551616 from rfl]; omega
      have hnp : 0 < nn := by omega
      have sR : bitN (1 * 2 ^ n) ≤ 9094 := Nat.le_trans (bitN_le_pow (n := n) (by omega)) (by omega)
      have b2 : bitN (2 ^ n / nn) ≤ 9094 := Nat.le_trans (bitN_mono (Nat.div_le_self _ _)) (by rw [Nat.one_mul] at sR; exact sR)
      have b3 : bitN (refH (2 ^ n) q M i * q) ≤ 18188 := Nat.le_trans (bitN_mul_le _ _) (by omega)
      have b4 : bitN (refH (2 ^ n) q M i * q / 2 ^ n) ≤ 18188 := Nat.le_trans (bitN_mono (Nat.div_le_self _ _)) b3
      generalize refH (2 ^ n) q M i = X at *
      have HDV : Hid (∀ W x y, RdD W x (digs DD (1 * 2 ^ n)) → RdD W y (digs DD nn) → Calls Tryd.prog 79 #[x, y] W (TwoD W (2 ^ n / nn) (1 * 2 ^ n % nn))) := Lib.hid (fun W x y h1 h2 => by
        have := rdiv_any h1 h2 (digsDlen (by omega)) hnp
        rw [Nat.one_mul] at this ⊢
        exact this)
      have HSH : Hid (∀ W x, RdD W x (digs DD (X * q)) → Calls Tryd.prog 80 #[x, .int .i64 n] W (OneD W (digs DD (X * q / 2 ^ n)))) := Lib.hid (fun W x h1 => rshift_n h1 rfl (by omega) (by omega))
      have HNN : Hid (∀ W, Calls Tryd.prog 17 #[.int .u64 (nn : Int)] W (OneD W (digs DD nn))) := Lib.hid (fun W => num_any hnb)
      clear HS HH hi hnn
      go_wp2_with
      (first
        | (go_at_call 17; (with_reducible refine (rnum_k1).mono ?_); rintro e w5 ⟨vo5, rfl, o5, hb5⟩; have B5 := Br.trans (hb5.mono Br.size); have O5 := hO.below hb5; have q5 := qr.below hb5; have r5 := rr.below hb5; clear hO qr rr)
        | (go_at_call 16; (with_reducible refine (rshl_n (n := n) o5 (by rw [bitN_one]; omega)).mono ?_); rintro e w6 ⟨vs6, rfl, s6, hb6⟩; have B6 := B5.trans (hb6.mono B5.size); have O6 := O5.below hb6; have q6 := q5.below hb6; have r6 := r5.below hb6; have o6 := o5.below hb6; clear O5 q5 r5 o5)
        | (go_at_call 17; (with_reducible refine (HNN.out _).mono ?_); rintro e w7 ⟨vd7, rfl, d7, hb7⟩; have B7 := B6.trans (hb7.mono B6.size); have O7 := O6.below hb7; have q7 := q6.below hb7; have r7 := r6.below hb7; have o7 := o6.below hb7; have s7 := s6.below hb7; clear O6 q6 r6 o6 s6)
        | (go_at_call 79; (with_reducible refine (HDV.out _ _ _ s7 d7).mono ?_); rintro e w8 ⟨vr, vm, rfl, c8, m8, hb8⟩; have B8 := B7.trans (hb8.mono B7.size); have O8 := O7.below hb8; have q8 := q7.below hb8; have r8 := r7.below hb8; have o8 := o7.below hb8; have s8 := s7.below hb8; have d8 := d7.below hb8; clear O7 q7 r7 o7 s7 d7)
        | (go_at_call 55; (with_reducible refine (rmul_n O8 q8 rfl (by omega) (by omega)).mono ?_); rintro e w9 ⟨vp9, rfl, p9, hb9⟩; have B9 := B8.trans (hb9.mono B8.size); have O9 := O8.below hb9; have q9 := q8.below hb9; have r9 := r8.below hb9; have o9 := o8.below hb9; have s9 := s8.below hb9; have d9 := d8.below hb9; have c9 := c8.below hb9; have m9 := m8.below hb9; clear O8 q8 r8 o8 s8 d8 c8 m8)
        | (go_at_call 80; (with_reducible refine (HSH.out _ _ p9).mono ?_); rintro e w10 ⟨vz10, rfl, z10, hb10⟩; have B10 := B9.trans (hb10.mono B9.size); have O10 := O9.below hb10; have q10 := q9.below hb10; have r10 := r9.below hb10; have o10 := o9.below hb10; have s10 := s9.below hb10; have d10 := d9.below hb10; have c10 := c9.below hb10; have m10 := m9.below hb10; have p10 := p9.below hb10; clear O9 q9 r9 o9 s9 d9 c9 m9 p9)
        | (go_at_call 12; (with_reducible refine (radd_n c10 z10 rfl (by omega) (by omega)).mono ?_); rintro e w11 ⟨vy11, rfl, y11, hb11⟩; have B11 := B10.trans (hb11.mono B10.size); have O11 := O10.below hb11; have q11 := q10.below hb11; have r11 := r10.below hb11; have o11 := o10.below hb11; have s11 := s10.below hb11; have d11 := d10.below hb11; have c11 := c10.below hb11; have m11 := m10.below hb11; have p11 := p10.below hb11; have z11 := z10.below hb11; clear O10 q10 r10 o10 s10 d10 c10 m10 p10 z10)
        | fail)
      go_round
      case rel => exact ⟨j, by first | rfl | go_num, by omega, by rw [hstep.out]; exact y11, q11, r11, B11⟩
      case measure => (simp [intOf]) <;> omega
    · obtain rfl : t = 0 := by omega
      have b1 := HS.out (M + 1) (by omega)
      rw [Nat.sub_zero] at hO
      have b3 : bitN (refH (2 ^ n) q M (M + 1) * r) ≤ 18188 := Nat.le_trans (bitN_mul_le _ _) (by omega)
      clear HS HH
      generalize refH (2 ^ n) q M (M + 1) = X at *
      have HSH : Hid (∀ W x, RdD W x (digs DD (X * r)) → Calls Tryd.prog 80 #[x, .int .i64 n] W (OneD W (digs DD (X * r / 2 ^ n)))) := Lib.hid (fun W x h1 => rshift_n h1 rfl (by omega) (by omega))
      go_wp2_with
      (first
        | (go_at_call 55; (with_reducible refine (rmul_n hO rr rfl (by omega) (by omega)).mono ?_); rintro e w5 ⟨vp5, rfl, p5, hb5⟩; have B5 := Br.trans (hb5.mono Br.size); have O5 := hO.below hb5; have q5 := qr.below hb5; have r5 := rr.below hb5; clear hO qr rr)
        | (go_at_call 80; (with_reducible refine (HSH.out _ _ p5).mono ?_); rintro e w6 ⟨vz6, rfl, z6, hb6⟩; have B6 := B5.trans (hb6.mono B5.size); have O6 := O5.below hb6; have q6 := q5.below hb6; have r6 := r5.below hb6; have p6 := p5.below hb6; clear O5 q5 r5 p5)
        | fail)
      go_ret
      exact ⟨_, rfl, z6, B6⟩
end Go.Proofs.YtngicppjljbafaaDoor

/- series.Ln2, chapter 12's alive() and wide() by their contracts. Conditions: the numbers are short; math/bits' table stands in its variable. -/
namespace Go.Proofs.YtngicppjljbafaaDoor
set_option maxRecDepth 100000
open Go.RowKit Go.ChangeShapes Go.WideShapes
set_option linter.unusedVariables false

theorem AtOk.bits {A B s L H : Nat} (h : AtOk A B s L H) (s1 : 8 ≤ s) (s2 : s ≤ 9000) : bitN L ≤ 20000 ∧ bitN H ≤ 20000 := by
  have h0 := Nat.two_pow_pos s
  have h1 := h.short
  have h2 := h.wide
  have h3 : s * 2 ^ s ≤ 9000 * 2 ^ s := Nat.mul_le_mul_right _ s2
  have hb : ∀ x, x ≤ 20000 * 2 ^ s → bitN x ≤ 20000 := fun x hx => Nat.le_trans (bitN_le.2 (show x < 2 ^ (s + 15) by rw [Nat.pow_add]; omega)) (by omega)
  exact ⟨hb _ (by omega), hb _ (by omega)⟩

theorem of_3 {w : World} : Calls Tryd.prog 41 #[.int .u64 3] w (One w (digs BB 3)) := of_n (n := 3) (by decide)
theorem ln2_det {w : World} {s : Nat} (hT : Tab w) (s1 : 8 ≤ s) (s2 : s ≤ 9000) :
    Calls Tryd.prog 33 #[.int .i64 (s : Int)] w fun e w' => ∃ vl vh L H, e = .returned (.tuple #[vl, vh, .int .i64 0]) ∧ RdN w' vl (digs BB (L + L)) ∧ RdN w' vh (digs BB (H + H)) ∧ (AtOk 1 3 s L H ∧ AtDet 1 3 s L H) ∧ Below w.heap.size w w' := by
  have b1 : bitN 1 ≤ 4096 := by rw [bitN_one]; omega
  have b3 : bitN 3 ≤ 4096 := Nat.le_trans (bitN_le.2 (show 3 < 2 ^ 2 by decide)) (by omega)
  have HA := Lib.hid (fun w v u (h : Num w v 1) (k : Num w u 3) (hT : Tab w) => Atanh_det h k hT s1 s2 b1 b3 (by omega) (by omega) (by omega))
  have KT := Lib.hid (fun L H (h : AtOk 1 3 s L H) => h.bits s1 s2)
  go_enter Tryd.func33, Tryd.ntmps33
  go_wp2_with
  (first
    | (go_at_call 41; (with_reducible refine (of_1).mono ?_); rintro e w1 ⟨vx1, rfl, x1, hb1⟩; have B1 := hb1; have T1 := hT.below hb1; clear hT)
    | (go_at_call 41; (with_reducible refine (of_3).mono ?_); rintro e w2 ⟨vy2, rfl, y2, hb2⟩; have B2 := B1.trans (hb2.mono B1.size); have T2 := T1.below hb2; have x2 := x1.below hb2; clear T1 x1)
    | (go_at_call 49; (with_reducible refine (HA.out _ _ _ (x2.num (by omega)) (y2.num (by omega)) T2).mono ?_); rintro e w3 ⟨vl, vh, L, H, rfl, l3, h3, ok, hb3⟩; have B3 := B2.trans (hb3.mono B2.size); have T3 := T2.below hb3; have x3 := x2.below hb3; have y3 := y2.below hb3; clear T2 x2 y2; obtain ⟨bl, bh⟩ := KT.out _ _ ok.1)
    | (go_at_call 42; (with_reducible refine (add_n (l3.num (by omega)) (l3.num (by omega)) rfl).mono ?_); rintro e w4 ⟨vp4, rfl, p4, hb4⟩; have B4 := B3.trans (hb4.mono B3.size); have T4 := T3.below hb4; have x4 := x3.below hb4; have y4 := y3.below hb4; have l4 := l3.below hb4; have h4 := h3.below hb4; clear T3 x3 y3 l3 h3)
    | (go_at_call 42; (with_reducible refine (add_n (h4.num (by omega)) (h4.num (by omega)) rfl).mono ?_); rintro e w5 ⟨vq5, rfl, q5, hb5⟩; have B5 := B4.trans (hb5.mono B4.size); have T5 := T4.below hb5; have x5 := x4.below hb5; have y5 := y4.below hb5; have l5 := l4.below hb5; have h5 := h4.below hb5; have p5 := p4.below hb5; clear T4 x4 y4 l4 h4 p4)
    | fail)
  go_ret3
  exact ⟨_, _, _, _, rfl, p5, q5, ok, B5⟩
theorem ln2_n {w : World} {s : Nat} (hT : Tab w) (s1 : 8 ≤ s) (s2 : s ≤ 9000) :
    Calls Tryd.prog 33 #[.int .i64 (s : Int)] w fun e w' => ∃ vl vh L H, e = .returned (.tuple #[vl, vh, .int .i64 0]) ∧ RdN w' vl (digs BB (L + L)) ∧ RdN w' vh (digs BB (H + H)) ∧ AtOk 1 3 s L H ∧ Below w.heap.size w w' := by
  refine (ln2_det hT s1 s2).mono ?_
  rintro e w' ⟨vl, vh, L, H, rfl, h1, h2, ⟨h3, -⟩, h4⟩
  exact ⟨vl, vh, L, H, rfl, h1, h2, h3, h4⟩
theorem ln2_arg {w : World} {s : Int} (hs : ¬ (8 ≤ s ∧ s ≤ 9000)) :
    Calls Tryd.prog 33 #[.int .i64 s] w fun e w' => ∃ vl vh, e = .returned (.tuple #[vl, vh, .int .i64 1]) ∧ Below w.heap.size w w' := by
  have b1 : bitN 1 ≤ 60000 := by rw [bitN_one]; omega
  have b3 : bitN 3 ≤ 4096 := Nat.le_trans (bitN_le.2 (show 3 < 2 ^ 2 by decide)) (by omega)
  have HA := Lib.hid (fun w v u (h : Num w v 1) (k : Num w u 3) => Atanh_arg h k b1 (.inl hs))
  have n0 := Lib.hid (fun w => (show RdN w (.slice none 0 0) (digs BB 0) from RdN.nil0 _).num (by rw [bitN_zero]; omega))
  clear hs
  go_enter Tryd.func33, Tryd.ntmps33
  go_wp2_with
  (first
    | (go_at_call 41; (with_reducible refine (of_1).mono ?_); rintro e w1 ⟨vx1, rfl, x1, hb1⟩; have B1 := hb1)
    | (go_at_call 41; (with_reducible refine (of_3).mono ?_); rintro e w2 ⟨vy2, rfl, y2, hb2⟩; have B2 := B1.trans (hb2.mono B1.size); have x2 := x1.below hb2; clear x1)
    | (go_at_call 49; (with_reducible refine (HA.out _ _ _ (x2.num (by omega)) (y2.num (by omega))).mono ?_); rintro e w3 ⟨rfl, hb3⟩; have B3 := B2.trans (hb3.mono B2.size); have x3 := x2.below hb3; have y3 := y2.below hb3; clear x2 y2)
    | (go_at_call 42; (with_reducible refine (add_n (n0.out _) (n0.out _) rfl).mono ?_); rintro e w4 ⟨vp4, rfl, p4, hb4⟩; have B4 := B3.trans (hb4.mono B3.size); have x4 := x3.below hb4; have y4 := y3.below hb4; clear x3 y3)
    | (go_at_call 42; (with_reducible refine (add_n (n0.out _) (n0.out _) rfl).mono ?_); rintro e w5 ⟨vq5, rfl, q5, hb5⟩; have B5 := B4.trans (hb5.mono B4.size); have x5 := x4.below hb5; have y5 := y4.below hb5; have p5 := p4.below hb5; clear x4 y4 p4)
    | fail)
  go_ret3
  exact ⟨_, _, rfl, B5⟩

theorem third_lo : (256 : Rat) * (atA (1 / 3) 3 + 2 * (1 / 3) ^ 7) < 89 := by decide +kernel
theorem third_hi : (88 : Rat) < 256 * atA (1 / 3) 3 := by decide +kernel
theorem ln2_8 {L H : Nat} (h : AtOk 1 3 8 L H) : L ≤ 88 ∧ 89 ≤ H := by
  have e : (1 / 3 : Rat) * ((3 : Nat) : Rat) = ((1 : Nat) : Rat) := by decide +kernel
  have e0 : (0 : Rat) ≤ 1 / 3 := by decide +kernel
  have e1 : 3 * (1 / 3 : Rat) ≤ 1 := by decide +kernel
  have h1 := h.lo _ e e0
  have h2 := h.hi _ e e0 e1 3
  have h3 := atA_tail (x := 1 / 3) e0 e1 3 8
  have h256 : ((2 ^ 8 : Nat) : Rat) = 256 := rfl
  rw [h256] at h1 h2
  have a1 := third_lo
  have a2 := third_hi
  have m7 : 2 * 3 + 1 = 7 := rfl
  rw [m7] at h3
  generalize atA (1 / 3) 3 = a at *
  generalize atA (1 / 3) 8 = b at *
  generalize ((1 : Rat) / 3) ^ 7 = c at *
  have l1 : (L : Rat) < ((89 : Nat) : Rat) := by show (L : Rat) < 89; grind
  have l2 : ((88 : Nat) : Rat) < (H : Rat) := by show (88 : Rat) < H; grind
  have := Rat.natCast_lt_natCast.1 l1
  have := Rat.natCast_lt_natCast.1 l2
  omega

theorem lit177 {w : World} {T : TypeId} : Num (w.alloc (.cells #[.int .u64 177] T (0, 0))) (.slice (some ⟨w.heap.size, 0, none⟩) 1 1) 177 := by
  have h : RdN (w.alloc (.cells #[.int .u64 ((177 : Nat) : Int)] T (0, 0))) (.slice (some ⟨w.heap.size, 0, none⟩) 1 1) [177] := rd_one (heap_alloc_new _ _) trivial
  exact RdN.num1 h (by decide)
theorem lit178 {w : World} {T : TypeId} : Num (w.alloc (.cells #[.int .u64 178] T (0, 0))) (.slice (some ⟨w.heap.size, 0, none⟩) 1 1) 178 := by
  have h : RdN (w.alloc (.cells #[.int .u64 ((178 : Nat) : Int)] T (0, 0))) (.slice (some ⟨w.heap.size, 0, none⟩) 1 1) [178] := rd_one (heap_alloc_new _ _) trivial
  exact RdN.num1 h (by decide)
theorem cmpN_ge' {a b : Nat} (h : b ≤ a) : 0 ≤ cmpN a b := by
  unfold cmpN
  rw [if_neg (by omega)]
  split <;> decide

end Go.Proofs.YtngicppjljbafaaDoor

/- Chapter 12's wide() and holds() by their contracts. Conditions: the numbers are short. -/
namespace Go.Proofs.YtngicppjljbafaaDoor
set_option maxRecDepth 100000
open Go.RowKit Go.ChangeShapes Go.WideShapes
set_option linter.unusedVariables false

end Go.Proofs.YtngicppjljbafaaDoor

/- series.Exp by its contracts. Conditions: math/bits' table stands in its variable. -/
namespace Go.Proofs.YtngicppjljbafaaDoor
set_option maxRecDepth 100000
open Go.RowKit Go.ChangeShapes Go.WideShapes
set_option linter.unusedVariables false
section
variable {w : World} {v u : Value} {A B s : Nat}

end
end Go.Proofs.YtngicppjljbafaaDoor

/- series.Exp refused, by its contracts. Conditions: the numbers are short. -/
namespace Go.Proofs.YtngicppjljbafaaDoor
set_option maxRecDepth 100000
open Go.RowKit Go.ChangeShapes Go.WideShapes
set_option linter.unusedVariables false
section
variable {w : World} {v u : Value} {A B : Nat}
theorem cmpN_gt' {a b : Nat} (h : b < a) : 0 < cmpN a b := by
  unfold cmpN
  rw [if_neg (by omega), if_neg (by omega)]; decide
end
end Go.Proofs.YtngicppjljbafaaDoor

/- series.Atanh of any fraction, nought too; orders by nat.Cmp. Conditions: the numbers are short; math/bits' table stands in its variable. -/
namespace Go.Proofs.YtngicppjljbafaaDoor
set_option maxRecDepth 100000
open Go.RowKit
set_option linter.unusedVariables false
theorem Atanh_any {w : World} {v u : Value} {A B s : Nat} (h : Num w v A) (k : Num w u B) (hT : Tab w) (s1 : 8 ≤ s) (s2 : s ≤ 9000) (sA : bitN A ≤ 4096) (sB : bitN B ≤ 4096) (hB : 0 < B) (h3 : 3 * A ≤ B) :
    Calls Tryd.prog 49 #[v, u, .int .i64 (s : Int)] w fun e w' => ∃ vl vh L H, e = .returned (.tuple #[vl, vh, .int .i64 0]) ∧ RdN w' vl (digs BB L) ∧ RdN w' vh (digs BB H) ∧ AtOk A B s L H ∧ Below w.heap.size w w' := by
  by_cases hA : A = 0
  · subst hA
    refine (Atanh_zero h k s1 s2 sB hB).mono ?_
    rintro e w' ⟨rfl, hb⟩
    exact ⟨_, _, 0, 0, rfl, RdN.nil0 _, RdN.nil0 _, atOk_zero (by omega), hb⟩
  · exact Atanh_ok h k hT s1 s2 sA sB hA hB h3
theorem ncmp_gt {w : World} {v u : Value} {A B : Nat} (h : Num w v A) (k : Num w u B) (e : A ≤ B) : Calls Tryd.prog 43 #[v, u] w (fun e w' => ∃ c, e = .returned (.int .i64 c) ∧ decide (0 < c) = false ∧ Below w.heap.size w w') := by
  refine (cmp_n h k rfl).mono ?_
  rintro e w1 ⟨rfl, h1⟩
  exact ⟨_, rfl, decide_eq_false (by have := cmpN_le' (show A ≤ B from ‹_›); omega), h1⟩
theorem ncmp_leq {w : World} {v u : Value} {A B : Nat} (h : Num w v A) (k : Num w u B) (e : A ≤ B) : Calls Tryd.prog 43 #[v, u] w (fun e w' => ∃ c, e = .returned (.int .i64 c) ∧ decide (c ≤ 0) = true ∧ Below w.heap.size w w') := by
  refine (cmp_n h k rfl).mono ?_
  rintro e w1 ⟨rfl, h1⟩
  exact ⟨_, rfl, decide_eq_true (cmpN_le' (show A ≤ B from ‹_›)), h1⟩
theorem rcmp_gt {w : World} {v u : Value} {A B : Nat} (h : RdD w v (digs DD A)) (k : RdD w u (digs DD B)) (e : A ≤ B) (sA : bitN A ≤ 400000) : Calls Tryd.prog 13 #[v, u] w (fun e w' => ∃ c, e = .returned (.int .i64 c) ∧ decide (0 < c) = false ∧ Below w.heap.size w w') := by
  refine (rcmp_n h k rfl sA).mono ?_
  rintro e w1 ⟨rfl, h1⟩
  exact ⟨_, rfl, decide_eq_false (by have := cmpN_le' (show A ≤ B from ‹_›); omega), h1⟩
theorem _root_.Go.Proofs.YtngicppjljbafaaDoor.ExOk.size {A B s L H : Nat} (h : ExOk A B s L H) (s2 : s ≤ 9000) : bitN L ≤ 20000 ∧ bitN H ≤ 20000 := by
  have h0 := Nat.two_pow_pos s
  have h1 := h.short
  have h2 := h.le
  have h3 : (s + 4) * 2 ^ s ≤ 9004 * 2 ^ s := Nat.mul_le_mul_right _ (by omega)
  have hb : ∀ x, x ≤ 20000 * 2 ^ s → bitN x ≤ 20000 := fun x hx => Nat.le_trans (bitN_le.2 (show x < 2 ^ (s + 15) by rw [Nat.pow_add]; omega)) (by omega)
  exact ⟨hb _ (by omega), hb _ (by omega)⟩
end Go.Proofs.YtngicppjljbafaaDoor

/- series.Within by its contract. Conditions: the numbers are short; math/bits' table stands in its variable. -/
namespace Go.Proofs.YtngicppjljbafaaDoor
set_option maxRecDepth 100000
open Go.RowKit Go.ChangeShapes Go.WideShapes
set_option linter.unusedVariables false

theorem Tab.set3 {w : World} {b : Nat} (h : Tab w) (hb : 0 ≠ b) (x y z : Value) : Tab (((w.setCell ⟨b, 0, none⟩ x).setCell ⟨b, 1, none⟩ y).setCell ⟨b, 2, none⟩ z) :=
  h.fr ((((Fr.refl (fun g => g = b) w).setCell (p := ⟨b, 0, none⟩) rfl x).setCell (p := ⟨b, 1, none⟩) rfl y).setCell (p := ⟨b, 2, none⟩) rfl z) hb

theorem bareD_bits {neg n' : Bool} {M M' : Nat} {E E' : Int} (e : bareD ⟨neg, M, E⟩ = ⟨n', M', E'⟩) : bitN M' ≤ bitN M := by
  have h := bareD_m_le ⟨neg, M, E⟩
  rw [e] at h
  exact bitN_mono h
theorem bareD_again {neg n' : Bool} {M M' : Nat} {E E' : Int} (e : bareD ⟨neg, M, E⟩ = ⟨n', M', E'⟩) (h1 : -2147483648 ≤ E') (h2 : E' ≤ 2147483648) : bareD ⟨n', M', E'⟩ = ⟨n', M', E'⟩ := by
  by_cases h0 : M = 0
  · rw [bareD_zero h0] at e
    injection e with e1 e2 e3
    subst e1; subst e2; subst e3
    rfl
  · rw [bareD_pos h0] at e
    injection e with e1 e2 e3
    obtain ⟨m, hm⟩ := low2_eq h0
    have : M' % 2 = 1 := by rw [← e2, odd_eq hm]; omega
    have h3 : (⟨n', M', E'⟩ : Dn).m ≠ 0 := by show M' ≠ 0; omega
    rw [bareD_pos h3]
    show (⟨n', M' / 2 ^ low2 M', cutE E' + (low2 M' : Nat)⟩ : Dn) = _
    rw [low2_odd this, Nat.pow_zero, Nat.div_one, show cutE E' = E' by unfold cutE; omega]
    simp
theorem bareD_fits {neg n' : Bool} {M M' : Nat} {E E' : Int} (e : bareD ⟨neg, M, E⟩ = ⟨n', M', E'⟩) (sM : bitN M ≤ 400000) (h1 : -1000000000 ≤ E) (h2 : E ≤ 1000000000) : fitsE E' = true ∧ -1000000000 ≤ E' ∧ E' ≤ 1001000000 := by
  by_cases h0 : M = 0
  · rw [bareD_zero h0] at e
    injection e with e1 e2 e3
    subst e3
    exact ⟨rfl, by omega, by omega⟩
  · rw [bareD_pos h0] at e
    injection e with e1 e2 e3
    have h3 := low2_lt (n := M) h0
    have h4 : cutE E = E := by unfold cutE; omega
    dsimp only at e3
    rw [h4] at e3
    refine ⟨?_, by omega, by omega⟩
    unfold fitsE
    rw [Bool.and_eq_true]
    exact ⟨decide_eq_true (by omega), decide_eq_true (by omega)⟩

set_option maxHeartbeats 2000000 in
theorem Within_n {w : World} {v u : Value} {neg n1 n2 : Bool} {L H m1 m2 : Nat} {s e1 e2 : Int} (h : Num w v L) (k : Num w u H) (hT : Tab w) (hLH : L ≤ H) (sH : bitN H ≤ 300000) (s1 : -1000000 ≤ s) (s2 : s ≤ 1000000)
    (q1 : bareD ⟨neg, if neg then H else L, -s⟩ = ⟨n1, m1, e1⟩) (q2 : bareD ⟨neg, if neg then L else H, -s⟩ = ⟨n2, m2, e2⟩) :
    Calls Tryd.prog 34 #[v, u, .int .i64 s, .bool neg] w fun e w' => ∃ x y, e = .returned (.agg #[.bool n1, x, .int .i64 e1, .bool n2, y, .int .i64 e2]) ∧ RdN w' x (digs BB m1) ∧ RdN w' y (digs BB m2) ∧ Below w.heap.size w w' := by
  have sL : bitN L ≤ 300000 := Nat.le_trans (bitN_mono hLH) sH
  have wn : IntKind.i64.wrap (-s) = -s := by rw [IntKind.wrap_i64]; omega
  cases neg
  · simp only [Bool.false_eq_true, if_false] at q1 q2
    obtain ⟨f1, r1, r2⟩ := bareD_fits q1 (by omega) (by omega) (by omega)
    obtain ⟨f2, r3, r4⟩ := bareD_fits q2 (by omega) (by omega) (by omega)
    have b1 := bareD_bits q1
    have b2 := bareD_bits q2
    have hc : cmpD ⟨n1, m1, e1⟩ ⟨n2, m2, e2⟩ ≤ 0 := by
      apply cmpD_le
      rw [← q1, ← q2, qv_bare (by show -2147483648 ≤ -s; omega) (by show -s ≤ 2147483648; omega), qv_bare (by show -2147483648 ≤ -s; omega) (by show -s ≤ 2147483648; omega)]
      exact Rat.mul_le_mul_of_nonneg_right (Rat.natCast_le_natCast.2 hLH) (Rat.le_of_lt (pw_pos _))
    obtain ⟨c, hcc⟩ : ∃ c, cmpD ⟨n1, m1, e1⟩ ⟨n2, m2, e2⟩ = c := ⟨_, rfl⟩
    have dc : decide (0 < c) = false := decide_eq_false (by omega)
    have HA := Lib.hid (fun w v (h : Num w v L) (hT : Tab w) => Make_ok h hT (by omega) (by omega) q1 f1)
    have HB := Lib.hid (fun w v (h : Num w v H) (hT : Tab w) => Make_ok h hT (by omega) (by omega) q2 f2)
    have HC := Lib.hid (fun w v u (h : RdN w v (digs BB m1)) (k : RdN w u (digs BB m2)) (hT : Tab w) => Cmp_n (h.num (by omega)) (k.num (by omega)) hT (by omega) (by omega) (by omega) (by omega) (bareD_again q1 (by omega) (by omega)) (bareD_again q2 (by omega) (by omega)) (by omega) (by omega) hcc)
    clear q1 q2 hc hcc f1 f2 r1 r2 r3 r4
    go_enter Tryd.func34, Tryd.ntmps34
    go_wp2_with
    (first
      | (go_at_call 60; (with_reducible refine (HA.out _ _ (h.below (below_alloc _ _)) (hT.below (below_alloc _ _))).mono ?_); rintro e w1 ⟨vx1, rfl, x1, hb1⟩; have B1 := (below_alloc _ _).trans (hb1.mono (below_alloc _ _).size); have m1 := ((h.below (below_alloc _ _))).below hb1; have g1 := ((k.below (below_alloc _ _))).below hb1; have T1 := ((hT.below (below_alloc _ _))).below hb1; have R1 := ((blk_new)).below hb1; obtain ⟨cR0_1, cR1_1, cR2_1, cR3_1, cR4_1, cR5_1, fR0_1, fR1_1, fR2_1, fR3_1, fR4_1, fR5_1, sR_1⟩ := R1.open6; obtain ⟨ax1, kx1, rfl, -⟩ := x1.view; try simp only [List.length_nil] at x1)
      | (go_at_call 60; (with_reducible refine (HB.out _ _ (g1.below (below_alloc _ _)) (T1.below (below_alloc _ _))).mono ?_); rintro e w2 ⟨vy2, rfl, y2, hb2⟩; have hb2' := (below_a hb2); have B2 := B1.trans (hb2'.mono B1.size); have m2 := m1.below hb2'; have g2 := g1.below hb2'; have T2 := T1.below hb2'; have R2 := R1.below hb2'; have x2 := x1.below hb2'; clear m1 g1 T1 R1 x1; have P2 := blk_new.below hb2; clear cR0_1 cR1_1 cR2_1 cR3_1 cR4_1 cR5_1 fR0_1 fR1_1 fR2_1 fR3_1 fR4_1 fR5_1 sR_1; obtain ⟨cR0_2, cR1_2, cR2_2, cR3_2, cR4_2, cR5_2, fR0_2, fR1_2, fR2_2, fR3_2, fR4_2, fR5_2, sR_2⟩ := R2.open6; obtain ⟨cP0_2, cP1_2, cP2_2, fP0_2, fP1_2, fP2_2, sP_2⟩ := P2.open3; obtain ⟨ay2, ky2, rfl, -⟩ := y2.view; try simp only [List.length_nil] at y2)
      | (go_at_call 28; (with_reducible refine (HC.out _ _ _ (x2.below (below_alloc _ _)) (y2.below (below_alloc _ _)) (T2.below (below_alloc _ _))).mono ?_); rintro e w3 ⟨rfl, hb3⟩; have hb3' := (below_a hb3); have B3 := B2.trans (hb3'.mono B2.size); have m3 := m2.below hb3'; have g3 := g2.below hb3'; have T3 := T2.below hb3'; have R3 := R2.below hb3'; have x3 := x2.below hb3'; have P3 := P2.below hb3'; have y3 := y2.below hb3'; clear m2 g2 T2 R2 x2 P2 y2; have Q3 := blk_new.below hb3; clear cR0_2 cR1_2 cR2_2 cR3_2 cR4_2 cR5_2 fR0_2 fR1_2 fR2_2 fR3_2 fR4_2 fR5_2 sR_2; obtain ⟨cR0_3, cR1_3, cR2_3, cR3_3, cR4_3, cR5_3, fR0_3, fR1_3, fR2_3, fR3_3, fR4_3, fR5_3, sR_3⟩ := R3.open6; clear cP0_2 cP1_2 cP2_2 fP0_2 fP1_2 fP2_2 sP_2; obtain ⟨cP0_3, cP1_3, cP2_3, fP0_3, fP1_3, fP2_3, sP_3⟩ := P3.open3; obtain ⟨cQ0_3, cQ1_3, cQ2_3, fQ0_3, fQ1_3, fQ2_3, sQ_3⟩ := Q3.open3)
      | fail)
    obtain ⟨z0, z1, z2, z3, z4, z5, -⟩ := (R3.set6 (.bool n1) (.slice ax1 (digs BB m1).length kx1) (.int .i64 e1) (.bool n2) (.slice ay2 (digs BB m2).length ky2) (.int .i64 e2)).open6
    refine bodyPost_ret (v := .agg #[.bool n1, .slice ax1 (digs BB m1).length kx1, .int .i64 e1, .bool n2, .slice ay2 (digs BB m2).length ky2, .int .i64 e2]) (by simp [results, Tryd.results34, go_sem, z0, z1, z2, z3, z4, z5]) rfl ⟨_, _, rfl, x3.set6 R3 dcells6 _ _ _ _ _ _, y3.set6 R3 dcells6 _ _ _ _ _ _, below_set6 B3 (by omega) _ _ _ _ _ _⟩
  · simp only [if_true] at q1 q2
    obtain ⟨f1, r1, r2⟩ := bareD_fits q1 (by omega) (by omega) (by omega)
    obtain ⟨f2, r3, r4⟩ := bareD_fits q2 (by omega) (by omega) (by omega)
    have b1 := bareD_bits q1
    have b2 := bareD_bits q2
    by_cases hlt : L < H
    · have hc : cmpD ⟨n2, m2, e2⟩ ⟨n1, m1, e1⟩ = 1 := by
        apply cmpD_gt
        rw [← q1, ← q2, qv_bare (by show -2147483648 ≤ -s; omega) (by show -s ≤ 2147483648; omega), qv_bare (by show -2147483648 ≤ -s; omega) (by show -s ≤ 2147483648; omega), qv_neg, qv_neg]
        have := Rat.mul_lt_mul_of_pos_right (Rat.natCast_lt_natCast.2 hlt) (pw_pos (-s))
        generalize (L : Rat) * pw (-s) = a at *
        generalize (H : Rat) * pw (-s) = b at *
        grind
      have HA := Lib.hid (fun w v (h : Num w v L) (hT : Tab w) => Make_ok h hT (by omega) (by omega) q2 f2)
      have HB := Lib.hid (fun w v (h : Num w v H) (hT : Tab w) => Make_ok h hT (by omega) (by omega) q1 f1)
      have HC := Lib.hid (fun w v u (h : RdN w v (digs BB m2)) (k : RdN w u (digs BB m1)) (hT : Tab w) => Cmp_n (h.num (by omega)) (k.num (by omega)) hT (by omega) (by omega) (by omega) (by omega) (bareD_again q2 (by omega) (by omega)) (bareD_again q1 (by omega) (by omega)) (by omega) (by omega) hc)
      clear q1 q2 hc f1 f2 r1 r2 r3 r4
      go_enter Tryd.func34, Tryd.ntmps34
      go_upto_region 5 with
      (first
        | (go_at_call 60; (with_reducible refine (HA.out _ _ (h.below (below_alloc _ _)) (hT.below (below_alloc _ _))).mono ?_); rintro e w1 ⟨vx1, rfl, x1, hb1⟩; have B1 := (below_alloc _ _).trans (hb1.mono (below_alloc _ _).size); have m1 := ((h.below (below_alloc _ _))).below hb1; have g1 := ((k.below (below_alloc _ _))).below hb1; have T1 := ((hT.below (below_alloc _ _))).below hb1; have R1 := ((blk_new)).below hb1; obtain ⟨cR0_1, cR1_1, cR2_1, cR3_1, cR4_1, cR5_1, fR0_1, fR1_1, fR2_1, fR3_1, fR4_1, fR5_1, sR_1⟩ := R1.open6; obtain ⟨ax1, kx1, rfl, -⟩ := x1.view; (try simp only [List.length_nil] at x1); have hl1 := Lib.hid R1.1)
        | (go_at_call 60; (with_reducible refine (HB.out _ _ (g1.below (below_alloc _ _)) (T1.below (below_alloc _ _))).mono ?_); rintro e w2 ⟨vy2, rfl, y2, hb2⟩; have hb2' := (below_a hb2); have B2 := B1.trans (hb2'.mono B1.size); have m2 := m1.below hb2'; have g2 := g1.below hb2'; have T2 := T1.below hb2'; have R2 := R1.below hb2'; have x2 := x1.below hb2'; clear m1 g1 T1 R1 x1; have P2 := blk_new.below hb2; clear cR0_1 cR1_1 cR2_1 cR3_1 cR4_1 cR5_1 fR0_1 fR1_1 fR2_1 fR3_1 fR4_1 fR5_1 sR_1; obtain ⟨cR0_2, cR1_2, cR2_2, cR3_2, cR4_2, cR5_2, fR0_2, fR1_2, fR2_2, fR3_2, fR4_2, fR5_2, sR_2⟩ := R2.open6; obtain ⟨cP0_2, cP1_2, cP2_2, fP0_2, fP1_2, fP2_2, sP_2⟩ := P2.open3; obtain ⟨ay2, ky2, rfl, -⟩ := y2.view; (try simp only [List.length_nil] at y2); have hl2 := Lib.hid P2.1; have ne1 := Lib.hid (Nat.ne_of_lt P2.1); have ne2 := Lib.hid (Nat.ne_of_gt P2.1))
        | (go_at_call 28; (with_reducible refine (HC.out _ _ _ (x2.below (below_alloc _ _)) (y2.below (below_alloc _ _)) (T2.below (below_alloc _ _))).mono ?_); rintro e w3 ⟨rfl, hb3⟩; have hb3' := (below_a hb3); have B3 := B2.trans (hb3'.mono B2.size); have m3 := m2.below hb3'; have g3 := g2.below hb3'; have T3 := T2.below hb3'; have R3 := R2.below hb3'; have x3 := x2.below hb3'; have P3 := P2.below hb3'; have y3 := y2.below hb3'; clear m2 g2 T2 R2 x2 P2 y2; have Q3 := blk_new.below hb3; clear cR0_2 cR1_2 cR2_2 cR3_2 cR4_2 cR5_2 fR0_2 fR1_2 fR2_2 fR3_2 fR4_2 fR5_2 sR_2; obtain ⟨cR0_3, cR1_3, cR2_3, cR3_3, cR4_3, cR5_3, fR0_3, fR1_3, fR2_3, fR3_3, fR4_3, fR5_3, sR_3⟩ := R3.open6; clear cP0_2 cP1_2 cP2_2 fP0_2 fP1_2 fP2_2 sP_2; obtain ⟨cP0_3, cP1_3, cP2_3, fP0_3, fP1_3, fP2_3, sP_3⟩ := P3.open3; obtain ⟨cQ0_3, cQ1_3, cQ2_3, fQ0_3, fQ1_3, fQ2_3, sQ_3⟩ := Q3.open3; obtain ⟨kc0, kc1, kc2, kf0, kf1, kf2, -⟩ := (Q3.other3 ne2.out (.bool n1) (.slice ay2 (digs BB m1).length ky2) (.int .i64 e1)).open3)
        | fail)
      have P4 := (P3.set3 (.bool n1) (.slice ay2 (digs BB m1).length ky2) (.int .i64 e1)).other3 ne1.out (.bool n2) (.slice ax1 (digs BB m2).length kx1) (.int .i64 e2)
      have Q4 := (Q3.other3 ne2.out (.bool n1) (.slice ay2 (digs BB m1).length ky2) (.int .i64 e1)).set3 (.bool n2) (.slice ax1 (digs BB m2).length kx1) (.int .i64 e2)
      have l1 : w.heap.size < w1.heap.size := hl1.out
      have l2 : w1.heap.size < w2.heap.size := hl2.out
      have R4 := (R3.other3 (show w.heap.size ≠ w1.heap.size by omega) (.bool n1) (.slice ay2 (digs BB m1).length ky2) (.int .i64 e1)).other3 (show w.heap.size ≠ w2.heap.size by omega) (.bool n2) (.slice ax1 (digs BB m2).length kx1) (.int .i64 e2)
      have x4 := (x3.set3 P3 dcells (.bool n1) (.slice ay2 (digs BB m1).length ky2) (.int .i64 e1)).set3 (Q3.other3 ne2.out (.bool n1) (.slice ay2 (digs BB m1).length ky2) (.int .i64 e1)) dcells (.bool n2) (.slice ax1 (digs BB m2).length kx1) (.int .i64 e2)
      have y4 := (y3.set3 P3 dcells (.bool n1) (.slice ay2 (digs BB m1).length ky2) (.int .i64 e1)).set3 (Q3.other3 ne2.out (.bool n1) (.slice ay2 (digs BB m1).length ky2) (.int .i64 e1)) dcells (.bool n2) (.slice ax1 (digs BB m2).length kx1) (.int .i64 e2)
      have B4 := below_set3 (below_set3 B3 (show w.heap.size ≤ w1.heap.size by omega) (.bool n1) (.slice ay2 (digs BB m1).length ky2) (.int .i64 e1)) (show w.heap.size ≤ w2.heap.size by omega) (.bool n2) (.slice ax1 (digs BB m2).length kx1) (.int .i64 e2)
      generalize (((((w3.setCell ⟨w1.heap.size, 0, none⟩ (.bool n1)).setCell ⟨w1.heap.size, 1, none⟩ (.slice ay2 (digs BB m1).length ky2)).setCell ⟨w1.heap.size, 2, none⟩ (.int .i64 e1)).setCell ⟨w2.heap.size, 0, none⟩ (.bool n2)).setCell ⟨w2.heap.size, 1, none⟩ (.slice ax1 (digs BB m2).length kx1)).setCell ⟨w2.heap.size, 2, none⟩ (.int .i64 e2) = w4 at *
      obtain ⟨cP0, cP1, cP2, fP0, fP1, fP2, -⟩ := P4.open3
      obtain ⟨cQ0, cQ1, cQ2, fQ0, fQ1, fQ2, -⟩ := Q4.open3
      obtain ⟨cR0, cR1, cR2, cR3, cR4, cR5, fR0, fR1, fR2, fR3, fR4, fR5, -⟩ := R4.open6
      go_wp2_with fail
      obtain ⟨z0, z1, z2, z3, z4, z5, -⟩ := (R4.set6 (.bool n1) (.slice ay2 (digs BB m1).length ky2) (.int .i64 e1) (.bool n2) (.slice ax1 (digs BB m2).length kx1) (.int .i64 e2)).open6
      refine bodyPost_ret (v := .agg #[.bool n1, .slice ay2 (digs BB m1).length ky2, .int .i64 e1, .bool n2, .slice ax1 (digs BB m2).length kx1, .int .i64 e2]) (by simp [results, Tryd.results34, go_sem, z0, z1, z2, z3, z4, z5]) rfl ⟨_, _, rfl, y4.set6 R4 dcells6 _ _ _ _ _ _, x4.set6 R4 dcells6 _ _ _ _ _ _, below_set6 B4 (Nat.le_refl _) _ _ _ _ _ _⟩
    · obtain rfl : L = H := by omega
      have hq := q1.symm.trans q2
      injection hq with g1 g2 g3
      subst g1; subst g2; subst g3
      have hc : cmpD ⟨n1, m1, e1⟩ ⟨n1, m1, e1⟩ = 0 := by
        have h1 := cmpD_le (a := ⟨n1, m1, e1⟩) (b := ⟨n1, m1, e1⟩) Rat.le_refl
        have h2 := cmpD_ge (a := ⟨n1, m1, e1⟩) (b := ⟨n1, m1, e1⟩) Rat.le_refl
        omega
      have HA := Lib.hid (fun w v (h : Num w v L) (hT : Tab w) => Make_ok h hT (by omega) (by omega) q2 f2)
      have HC := Lib.hid (fun w v u (h : RdN w v (digs BB m1)) (k : RdN w u (digs BB m1)) (hT : Tab w) => Cmp_n (h.num (by omega)) (k.num (by omega)) hT (by omega) (by omega) (by omega) (by omega) (bareD_again q2 (by omega) (by omega)) (bareD_again q1 (by omega) (by omega)) (by omega) (by omega) hc)
      clear q1 q2 hc f1 f2 r1 r2 r3 r4
      go_enter Tryd.func34, Tryd.ntmps34
      go_wp2_with
      (first
        | (go_at_call 60; (with_reducible refine (HA.out _ _ (h.below (below_alloc _ _)) (hT.below (below_alloc _ _))).mono ?_); rintro e w1 ⟨vx1, rfl, x1, hb1⟩; have B1 := (below_alloc _ _).trans (hb1.mono (below_alloc _ _).size); have m1 := ((h.below (below_alloc _ _))).below hb1; have g1 := ((k.below (below_alloc _ _))).below hb1; have T1 := ((hT.below (below_alloc _ _))).below hb1; have R1 := ((blk_new)).below hb1; obtain ⟨cR0_1, cR1_1, cR2_1, cR3_1, cR4_1, cR5_1, fR0_1, fR1_1, fR2_1, fR3_1, fR4_1, fR5_1, sR_1⟩ := R1.open6; obtain ⟨ax1, kx1, rfl, -⟩ := x1.view; try simp only [List.length_nil] at x1)
        | (go_at_call 60; (with_reducible refine (HA.out _ _ (g1.below (below_alloc _ _)) (T1.below (below_alloc _ _))).mono ?_); rintro e w2 ⟨vy2, rfl, y2, hb2⟩; have hb2' := (below_a hb2); have B2 := B1.trans (hb2'.mono B1.size); have m2 := m1.below hb2'; have g2 := g1.below hb2'; have T2 := T1.below hb2'; have R2 := R1.below hb2'; have x2 := x1.below hb2'; clear m1 g1 T1 R1 x1; have P2 := blk_new.below hb2; clear cR0_1 cR1_1 cR2_1 cR3_1 cR4_1 cR5_1 fR0_1 fR1_1 fR2_1 fR3_1 fR4_1 fR5_1 sR_1; obtain ⟨cR0_2, cR1_2, cR2_2, cR3_2, cR4_2, cR5_2, fR0_2, fR1_2, fR2_2, fR3_2, fR4_2, fR5_2, sR_2⟩ := R2.open6; obtain ⟨cP0_2, cP1_2, cP2_2, fP0_2, fP1_2, fP2_2, sP_2⟩ := P2.open3; obtain ⟨ay2, ky2, rfl, -⟩ := y2.view; try simp only [List.length_nil] at y2)
        | (go_at_call 28; (with_reducible refine (HC.out _ _ _ (x2.below (below_alloc _ _)) (y2.below (below_alloc _ _)) (T2.below (below_alloc _ _))).mono ?_); rintro e w3 ⟨rfl, hb3⟩; have hb3' := (below_a hb3); have B3 := B2.trans (hb3'.mono B2.size); have m3 := m2.below hb3'; have g3 := g2.below hb3'; have T3 := T2.below hb3'; have R3 := R2.below hb3'; have x3 := x2.below hb3'; have P3 := P2.below hb3'; have y3 := y2.below hb3'; clear m2 g2 T2 R2 x2 P2 y2; have Q3 := blk_new.below hb3; clear cR0_2 cR1_2 cR2_2 cR3_2 cR4_2 cR5_2 fR0_2 fR1_2 fR2_2 fR3_2 fR4_2 fR5_2 sR_2; obtain ⟨cR0_3, cR1_3, cR2_3, cR3_3, cR4_3, cR5_3, fR0_3, fR1_3, fR2_3, fR3_3, fR4_3, fR5_3, sR_3⟩ := R3.open6; clear cP0_2 cP1_2 cP2_2 fP0_2 fP1_2 fP2_2 sP_2; obtain ⟨cP0_3, cP1_3, cP2_3, fP0_3, fP1_3, fP2_3, sP_3⟩ := P3.open3; obtain ⟨cQ0_3, cQ1_3, cQ2_3, fQ0_3, fQ1_3, fQ2_3, sQ_3⟩ := Q3.open3)
        | fail)
      obtain ⟨z0, z1, z2, z3, z4, z5, -⟩ := (R3.set6 (.bool n1) (.slice ax1 (digs BB m1).length kx1) (.int .i64 e1) (.bool n1) (.slice ay2 (digs BB m1).length ky2) (.int .i64 e1)).open6
      refine bodyPost_ret (v := .agg #[.bool n1, .slice ax1 (digs BB m1).length kx1, .int .i64 e1, .bool n1, .slice ay2 (digs BB m1).length ky2, .int .i64 e1]) (by simp [results, Tryd.results34, go_sem, z0, z1, z2, z3, z4, z5]) rfl ⟨_, _, rfl, x3.set6 R3 dcells6 _ _ _ _ _ _, y3.set6 R3 dcells6 _ _ _ _ _ _, below_set6 B3 (by omega) _ _ _ _ _ _⟩
end Go.Proofs.YtngicppjljbafaaDoor
