/- RootPowers returns true and leaves what was there: the walk. Conditions: math/bits' table stands in its variable. -/
import Derived.Test.YtnoelffaccekjaaDoorLaw4
namespace Go.Proofs.YtnoelffaccekjaaDoor.PRPow
open Go.RowKit Go.Proofs.YtnoelffaccekjaaDoor

theorem next_pow {Y n S : Nat} (h : Y ^ n ≤ S) (h1 : 1 ≤ S) : (Y + 1) ^ n ≤ 2 ^ n * S := by
  rcases Nat.eq_zero_or_pos Y with rfl | h0
  · rw [Nat.zero_add, Nat.one_pow]
    exact Nat.le_trans h1 (Nat.le_mul_of_pos_left _ (Nat.pow_pos (by omega)))
  · refine Nat.le_trans (Nat.pow_le_pow_left (show Y + 1 ≤ 2 * Y by omega) n) ?_
    rw [Nat.mul_pow]
    exact Nat.mul_le_mul_left _ h
theorem cmpN_ge {a b : Nat} (h : b ≤ a) : 0 ≤ cmpN a b := by unfold cmpN; rw [if_neg (by omega)]; split <;> decide
theorem cmpN_le {a b : Nat} (h : a ≤ b) : cmpN a b ≤ 0 := by
  rcases Nat.lt_or_eq_of_le h with h | rfl
  · rw [cmpN_lt h]; decide
  · rw [cmpN_eq]; exact Int.le_refl _

set_option maxRecDepth 100000 in
set_option maxHeartbeats 1000000 in
theorem walk (a0 : Option Addr) (len0 cap0 : Nat) (z0 : List Int) (a1 a2 : Int) (w : World) (w0 : IsRow .u64 w a0 len0 cap0 z0) (w1 : (Lit.int .u8 a1).wf = true) (w2 : (Lit.int .u64 a2).wf = true) (hT : Tab w) :
    Calls Tryd.prog 4 #[.slice a0 len0 cap0, .int .u8 a1, .int .u64 a2] w fun e w' => e = .returned (.bool true) ∧ Below w.heap.size w w' := by
  obtain ⟨l, hl, dl, RL, hl64⟩ := w0.nums
  have h1 : 0 ≤ a1 ∧ a1 ≤ 255 := by simpa [Lit.wf, IntKind.min, IntKind.max, IntKind.bits, IntKind.signed] using w1
  obtain ⟨i, rfl⟩ := Int.eq_ofNat_of_zero_le h1.1
  obtain ⟨t, rfl, ht⟩ := u64_nat w2
  clear w0 w1 w2
  have h1B : 1 < BB := by decide
  by_cases hb0 : 4 < len0
  · clear RL dl hl
    go_enter Tryd.func4, Tryd.ntmps4
    go_wp2_with (go_at_call 7; (with_reducible refine (alive4_any hT).mono ?_); rintro e wa ⟨rfl, hba⟩)
    go_ret
    exact ⟨rfl, hba⟩
  · have dec0 : decide (4 < (len0 : Int)) = false := decide_eq_false (by omega)
    have HT := hT
    clear hT
    have bA := val_bits dl (show l.length ≤ 4 by omega)
    have RA := RL.numl dl (by omega)
    clear dl RL
    generalize val BB l = A at *
    obtain ⟨p, hp, hp8⟩ : ∃ p : Nat, (i : Int) % 12 = p ∧ p < 12 := ⟨i % 12, by omega, by omega⟩
    obtain ⟨n, hn, hn0, hn1⟩ : ∃ n : Nat, (1 : Int) + (p : Int) = (n : Int) ∧ 0 < n ∧ n ≤ 12 := ⟨1 + p, by omega, by omega, by omega⟩
    have q1 := bitN_pow_le A n
    have q2 := Nat.mul_le_mul bA hn1
    have q3 : bitN t ≤ 64 := bitN_le.2 (by rw [← BB_pow]; exact ht)
    have q4 := bitN_add_le (A ^ n) t
    have hAr : IsRoot (A ^ n) n A := IsRoot.pow hn0
    obtain ⟨Y, hY⟩ := IsRoot.exists hn0 (A ^ n + t)
    have hYA : A ≤ Y := hAr.le hY (Nat.le_add_right _ _)
    have q5 := bitN_mono hY.1
    have q6 : bitN ((Y + 1) ^ n) ≤ 12 + bitN (A ^ n + t) + 1 + 1 := by
      by_cases h0 : 1 ≤ A ^ n + t
      · have := bitN_mono (next_pow hY.1 h0)
        have h2 := bitN_mul_le (2 ^ n) (A ^ n + t)
        have h3 : bitN (2 ^ n) ≤ n + 1 := bitN_le.2 (Nat.pow_lt_pow_right (by omega) (Nat.lt_succ_self n))
        omega
      · have h2 : A ^ n + t = 0 := by omega
        have h3 := hY.1
        rw [h2] at h3
        have h4 : Y = 0 := by
          rcases Nat.eq_zero_or_pos Y with h5 | h5
          · exact h5
          · have := Nat.pow_pos (n := n) h5; omega
        rw [h4, Nat.zero_add, Nat.one_pow, bitN_one]; omega
    have hU := hY.2
    have hQ := hY.1
    have hYS := hY.le_self hn0
    have q7 := bitN_mono hYS
    have q8 := bitN_mono (hAr.le_self hn0)
    have q9 := bitN_add_le Y 1
    have HA := Lib.hid hAr
    generalize hP : A ^ n = P at *
    generalize hS : P + t = S at *
    generalize hQ' : Y ^ n = Q at *
    generalize hY1 : Y + 1 = Y1 at *
    generalize hU' : Y1 ^ n = U at *
    obtain ⟨c1, hc1, i1⟩ : ∃ c : Int, cmpN Q S = c ∧ c ≤ 0 := ⟨_, rfl, cmpN_le hQ⟩
    obtain ⟨c3, hc3, i3⟩ : ∃ c : Int, cmpN Y A = c ∧ 0 ≤ c := ⟨_, rfl, cmpN_ge hYA⟩
    have i1' : decide (c1 ≤ 0) = true := decide_eq_true i1
    have i3' : decide (0 ≤ c3) = true := decide_eq_true i3
    have hx : decide (Q = S) = (c1 == 0) := by
      rw [← hc1]
      exact decide_eq_decide.2 cmpN_zero.symm
    have eP := Lib.hid hP; have eS := Lib.hid hS; have eQ := Lib.hid hQ'; have eY1 := Lib.hid hY1; have eU := Lib.hid hU'
    have e1 := Lib.hid hc1; have e3 := Lib.hid hc3
    have eis := Lib.hid (show decide (Y ^ n = S) = (c1 == 0) by rw [hQ']; exact hx)
    have eis0 := Lib.hid (show decide (A ^ n = P) = true from decide_eq_true hP)
    have HY := Lib.hid hY; have HU := Lib.hid hU
    have sP : bitN P ≤ 2560000 := by omega
    have sP6 : bitN P ≤ 65536 := by omega
    have sP8 : bitN P ≤ 8192 := by omega
    have sA : bitN A ≤ 2560000 := by omega
    have sS : bitN S ≤ 2560000 := by omega
    have sS8 : bitN S ≤ 8192 := by omega
    have sQ : bitN Q ≤ 2560000 := by omega
    have sQ6 : bitN Q ≤ 65536 := by omega
    have sU : bitN U ≤ 2560000 := by omega
    have sU6 : bitN U ≤ 65536 := by omega
    have sY : bitN Y ≤ 2560000 := by omega
    have b1 := bitN_one
    have sY1 : bitN Y1 ≤ 2560000 := by omega
    have hnM : n ≤ 9223372036854775807 := by omega
    have hn11 : 1 ≤ n := hn0
    clear hP hS hQ' hY1 hU' hc1 hc3 hx hY hU hQ hYA hYS hAr q1 q2 q3 q4 q5 q6 q7 q8 q9 bA b1 i1 i3
    go_enter Tryd.func4, Tryd.ntmps4
    go_wp2_with
    (first
      | (go_at_call 7; (with_reducible refine (alive4_any HT).mono ?_); rintro e w1 ⟨rfl, hb1⟩; have B1 := hb1; have a1 := RA.below hb1; have T1 := HT.below hb1; clear RA HT)
      | (go_at_call 16; (with_reducible refine (pow_n a1 eP.out sP6 hnM).mono ?_); rintro e w2 ⟨vp2, rfl, p2, hb2⟩; have B2 := B1.trans (hb2.mono B1.size); have a2 := a1.below hb2; have T2 := T1.below hb2; clear a1 T1)
      | (go_at_call 8; (with_reducible refine (root_n (p2.num sP) T2 sP8 hn11 hnM HA.out eis0.out).mono ?_); rintro e w3 ⟨vx3, rfl, x3, hb3⟩; have B3 := B2.trans (hb3.mono B2.size); have a3 := a2.below hb3; have T3 := T2.below hb3; have p3 := p2.below hb3; clear a2 T2 p2)
      | (go_at_call 17; (with_reducible refine (cmp_n (x3.num sA) a3 (cmpN_eq _)).mono ?_); rintro e w4 ⟨rfl, hb4⟩; have B4 := B3.trans (hb4.mono B3.size); have a4 := a3.below hb4; have T4 := T3.below hb4; have p4 := p3.below hb4; have x4 := x3.below hb4; clear a3 T3 p3 x3)
      | (go_at_call 18; (with_reducible refine (add_n ((p4.below (below_alloc _ _)).num sP) (RdN.num1 ?_ ht) eS.out).mono ?_); (exact rd_one (heap_alloc_new _ _) trivial); rintro e w5 ⟨vs5, rfl, s5, hb5⟩; have hb5' := (below_a hb5); have B5 := B4.trans (hb5'.mono B4.size); have a5 := a4.below hb5'; have T5 := T4.below hb5'; have p5 := p4.below hb5'; have x5 := x4.below hb5'; clear a4 T4 p4 x4)
      | (go_at_call 8; (with_reducible refine (root_n (s5.num sS) T5 sS8 hn11 hnM HY.out eis.out).mono ?_); rintro e w6 ⟨vy6, rfl, y6, hb6⟩; have B6 := B5.trans (hb6.mono B5.size); have a6 := a5.below hb6; have T6 := T5.below hb6; have p6 := p5.below hb6; have x6 := x5.below hb6; have s6 := s5.below hb6; clear a5 T5 p5 x5 s5)
      | (go_at_call 16; (with_reducible refine (pow_n (y6.num sY) eQ.out sQ6 hnM).mono ?_); rintro e w7 ⟨vq7, rfl, q7, hb7⟩; have B7 := B6.trans (hb7.mono B6.size); have a7 := a6.below hb7; have T7 := T6.below hb7; have p7 := p6.below hb7; have x7 := x6.below hb7; have s7 := s6.below hb7; have y7 := y6.below hb7; clear a6 T6 p6 x6 s6 y6)
      | (go_at_call 18; (with_reducible refine (add_n ((y7.below (below_alloc _ _)).num sY) (RdN.num1 ?_ h1B) eY1.out).mono ?_); (exact rd_one (heap_alloc_new _ _) trivial); rintro e w8 ⟨vz8, rfl, z8, hb8⟩; have hb8' := (below_a hb8); have B8 := B7.trans (hb8'.mono B7.size); have a8 := a7.below hb8'; have T8 := T7.below hb8'; have p8 := p7.below hb8'; have x8 := x7.below hb8'; have s8 := s7.below hb8'; have y8 := y7.below hb8'; have q8 := q7.below hb8'; clear a7 T7 p7 x7 s7 y7 q7)
      | (go_at_call 16; (with_reducible refine (pow_n (z8.num sY1) eU.out sU6 hnM).mono ?_); rintro e w9 ⟨vu9, rfl, u9, hb9⟩; have B9 := B8.trans (hb9.mono B8.size); have a9 := a8.below hb9; have T9 := T8.below hb9; have p9 := p8.below hb9; have x9 := x8.below hb9; have s9 := s8.below hb9; have y9 := y8.below hb9; have q9 := q8.below hb9; have z9 := z8.below hb9; clear a8 T8 p8 x8 s8 y8 q8 z8)
      | (go_at_call 17; (with_reducible refine (cmp_n (q9.num sQ) (s9.num sS) e1.out).mono ?_); rintro e w10 ⟨rfl, hb10⟩; have B10 := B9.trans (hb10.mono B9.size); have a10 := a9.below hb10; have T10 := T9.below hb10; have p10 := p9.below hb10; have x10 := x9.below hb10; have s10 := s9.below hb10; have y10 := y9.below hb10; have q10 := q9.below hb10; have z10 := z9.below hb10; have u10 := u9.below hb10; clear a9 T9 p9 x9 s9 y9 q9 z9 u9)
      | (go_at_call 17; (with_reducible refine (cmp_n (u10.num sU) (s10.num sS) (cmpN_gt HU.out)).mono ?_); rintro e w11 ⟨rfl, hb11⟩; have B11 := B10.trans (hb11.mono B10.size); have a11 := a10.below hb11; have T11 := T10.below hb11; have p11 := p10.below hb11; have x11 := x10.below hb11; have s11 := s10.below hb11; have y11 := y10.below hb11; have q11 := q10.below hb11; have z11 := z10.below hb11; have u11 := u10.below hb11; clear a10 T10 p10 x10 s10 y10 q10 z10 u10)
      | (go_at_call 17; (with_reducible refine (cmp_n (q11.num sQ) (s11.num sS) e1.out).mono ?_); rintro e w12 ⟨rfl, hb12⟩; have B12 := B11.trans (hb12.mono B11.size); have a12 := a11.below hb12; have T12 := T11.below hb12; have p12 := p11.below hb12; have x12 := x11.below hb12; have s12 := s11.below hb12; have y12 := y11.below hb12; have q12 := q11.below hb12; have z12 := z11.below hb12; have u12 := u11.below hb12; clear a11 T11 p11 x11 s11 y11 q11 z11 u11)
      | (go_at_call 17; (with_reducible refine (cmp_n (y12.num sY) a12 e3.out).mono ?_); rintro e w13 ⟨rfl, hb13⟩; have B13 := B12.trans (hb13.mono B12.size); have a13 := a12.below hb13; have T13 := T12.below hb13; have p13 := p12.below hb13; have x13 := x12.below hb13; have s13 := s12.below hb13; have y13 := y12.below hb13; have q13 := q12.below hb13; have z13 := z12.below hb13; have u13 := u12.below hb13; clear a12 T12 p12 x12 s12 y12 q12 z12 u12)
      | fail)
    all_goals
      go_ret
      exact ⟨rfl, by assumption⟩
end Go.Proofs.YtnoelffaccekjaaDoor.PRPow
