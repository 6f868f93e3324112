/- prod.Times and prod.Pow by their contracts. Conditions: the lists are short, the limbs are limbs. -/
import Derived.Test.YtnoelffaccekjaaDoorNat7
import Derived.Laws.BitsLemmas
namespace Go.Proofs.YtnoelffaccekjaaDoor
open Go.RowKit

theorem of_num {w : World} {n : Nat} (hn : n < BB) : Calls Tryd.prog 32 #[L64 n] w (One w (digs BB n)) := by
  have e := strip_eq BB_two (Dig.cons hn (Dig.nil BB))
  rw [val_one] at e
  rw [← e]; exact of_any

theorem of_one {w : World} : Calls Tryd.prog 32 #[.int .u64 1] w (One w (digs BB 1)) := of_num (by decide)
theorem len_any {w : World} (K : Nat) (h : K < 9223372036854775808) : Calls Tryd.prog 33 #[.int .u64 (K : Int)] w fun e w' => e = .returned (.int .i64 (bitN K : Nat)) ∧ w' = w := by
  have := Tryd.bits_Len K w (by omega) (by omega)
  rw [Int.toNat_natCast, bitLen_bitN _ (by omega)] at this
  exact this

theorem odd_bit {q : Nat} (h : q < 9223372036854775808) : bits .and .i64 (q : Int) 1 = ((q % 2 : Nat) : Int) := by
  have := bits_mask .i64 63 (by decide) (fun n h0 h1 => by rw [IntKind.wrap_i64]; omega) 1 (by decide) q (by omega) (by omega)
  have e : ((2 : Int) ^ 1 - 1) = 1 := by decide
  rw [e] at this
  rw [this]; omega

theorem odd_test {K i : Nat} (h : K < 9223372036854775808) : (bits .and .i64 ((K : Int) / 2 ^ i) 1 == 1) = decide (K / 2 ^ i % 2 = 1) := by
  have e : (K : Int) / 2 ^ i = ((K / 2 ^ i : Nat) : Int) := by simp
  rw [e, odd_bit (Nat.lt_of_le_of_lt (Nat.div_le_self _ _) h)]
  by_cases h1 : K / 2 ^ i % 2 = 1
  · rw [h1]; rfl
  · rw [show K / 2 ^ i % 2 = 0 by omega]; rfl

/-- The loop's relation in Pow: the powers of the exponent's upper bits. -/
structure PowRel (w : World) (A K : Nat) (v1 : Value) (s : List Nat) (j : Nat) (v : Value) (wr : World) : Prop where
  arg : RdN wr v1 s
  le : j ≤ bitN K
  small : bitN (A ^ (K / 2 ^ j)) ≤ 65536
  rd : RdN wr v (digs BB (A ^ (K / 2 ^ j)))
  below : Below w.heap.size w wr

set_option maxHeartbeats 400000 in
theorem times_any {w : World} {v : Value} {l : List Nat} {n : Nat} (hl : RdN w v l) (hdl : Dig BB l) (h1 : l.length ≤ 100000) (hn : n < BB) :
    Calls Tryd.prog 51 #[v, L64 n] w (OneE w (mulR (val BB l) n)) := by
  have HO := of_num (w := w) hn
  have HM := fun w1 (hb : Below w.heap.size w w1) u (hu : RdN w1 u (digs BB n)) => mul_any (hl.below hb) hu hdl (dig_digs BB_two n) h1 (digs_bound (l := [n]) (Dig.cons hn (Dig.nil BB)) (k := 100000) (by simp) (val_one BB n).symm)
  rw [val_digs BB_two] at HM
  have HM := Lib.hid HM
  clear hl
  go_enter Tryd.func51, Tryd.ntmps51
  go_wp2_with (first
    | (go_at_call 32; (with_reducible refine HO.mono ?_); rintro e w1 ⟨v1, rfl, hr, hb⟩)
    | (go_at_call 55; (with_reducible refine (HM.out _ hb _ hr).mono ?_); rintro e w2 ⟨v2, rfl, hr2, hb2⟩))
  go_ret2
  exact ⟨_, rfl, hr2, hb.trans (hb2.mono hb.size)⟩

/-- What prod.Pow tells. -/
def powR (A : Nat) (k : Int) : Nat × Int := if k < 0 then (0, 1) else if 65536 < bitN (A ^ k.toNat) then (0, 2) else (A ^ k.toNat, 0)

set_option maxHeartbeats 400000 in
theorem pow_big {w : World} {v : Value} {l : List Nat} {K : Nat} (hl : RdN w v l) (hdl : Dig BB l) (h1 : l.length ≤ 100000) (hK : 0 < K) (hK2 : K < 9223372036854775808) (hA : 2 ≤ val BB l) :
    Calls Tryd.prog 16 #[v, .int .i64 K] w (OneE w (powR (val BB l) K)) := by
  have HA := bare_num hl hdl h1
  have la := digs_bound hdl h1 rfl
  generalize val BB l = A at HA la hA ⊢
  clear hl hdl h1
  have dA := dig_digs BB_two A
  have eA := val_digs BB_two A
  have gA := digs_bits (n := A) la
  have HS := Lib.hid (fun (w : World) v (h1 : RdN w v (digs BB A)) => small_any h1 la)
  have HbA := Lib.hid (fun (w : World) v (h1 : RdN w v (digs BB A)) => bits_num h1 dA la)
  rw [strip_digs BB_two] at HS
  rw [eA] at HbA
  obtain ⟨n, sm, hs, hsm⟩ : ∃ (n : Nat) (sm : Bool), (L64 (if (digs BB A).length ≤ 1 then (digs BB A).getD 0 0 else 0) = L64 n ∧ decide ((digs BB A).length ≤ 1) = sm) ∧ (sm = false ∨ decide ((n : Int) < 2) = false ∧ sm = true) := by
    by_cases h : (digs BB A).length ≤ 1
    · refine ⟨A, true, ⟨?_, by simp [h]⟩, .inr ⟨by simp; omega, rfl⟩⟩
      rw [if_pos h]
      generalize digs BB A = s at h eA
      match s with
      | [] => simp at eA; omega
      | [x] => simp at eA; simp [eA]
    · exact ⟨_, false, ⟨rfl, by simp [h]⟩, .inl rfl⟩
  rw [hs.1, hs.2] at HS
  clear hs
  have hb1 : 2 ≤ bitN A := lt_bitN.2 (by omega)
  have hbK : bitN K ≤ 63 := bitN_le.2 (by omega)
  have hsl := fun h : bitN A ≤ 64 * 1024 => digs_short (n := A) h
  generalize digs BB A = s at *
  have ho := Lib.hid (fun w => of_one (w := w))
  by_cases hlong : 65535 / ((bitN A : Int) - 1) < (K : Int)
  · have hd := decide_eq_true hlong
    have E : powR A K = (0, 2) := by
      have h0 := bitN_pow_ge (a := A) (by omega) K
      have h2 : 65535 < (K : Int) * ((bitN A : Int) - 1) := (Int.ediv_lt_iff_lt_mul (by omega)).1 hlong
      have h3 : 65535 < (bitN A - 1) * K := by
        rw [show (bitN A : Int) - 1 = ((bitN A - 1 : Nat) : Int) by omega, ← Int.natCast_mul, Nat.mul_comm] at h2
        omega
      unfold powR
      rw [if_neg (by omega), Int.toNat_natCast, if_pos (by omega)]
    rw [E]
    clear E
    rcases hsm with rfl | ⟨hn2, rfl⟩
    all_goals
      go_enter Tryd.func16, Tryd.ntmps16
      go_wp2_with (first
        | (go_at_call 23; (with_reducible refine HA.mono ?_); rintro e w1 ⟨v1, rfl, hr, hb⟩)
        | (go_at_call 31; (with_reducible refine (HS.out _ _ hr).mono ?_); rintro e w2 ⟨rfl, hb2⟩)
        | (go_at_call 21; (with_reducible refine (HbA.out _ _ (hr.below hb2)).mono ?_); rintro e w3 ⟨rfl, hb3⟩))
      go_ret2
      have B2 := hb.trans (hb2.mono hb.size)
      exact ⟨_, rfl, RdN.nil0 _, B2.trans (hb3.mono B2.size)⟩
  · have hd := decide_eq_false hlong
    have hbA : bitN A ≤ 65536 := by
      have h1 : 1 ≤ 65535 / ((bitN A : Int) - 1) := by omega
      have h2 := (Int.le_ediv_iff_mul_le (by omega)).1 h1
      omega
    rcases hsm with rfl | ⟨hn2, rfl⟩
    all_goals
      go_enter Tryd.func16, Tryd.ntmps16
      go_wp2_with (first
        | (go_at_call 23; (with_reducible refine HA.mono ?_); rintro e w1 ⟨v1, rfl, hr, hb⟩)
        | (go_at_call 31; (with_reducible refine (HS.out _ _ hr).mono ?_); rintro e w2 ⟨rfl, hb2⟩)
        | (go_at_call 21; (with_reducible refine (HbA.out _ _ (hr.below hb2)).mono ?_); rintro e w3 ⟨rfl, hb3⟩)
        | (go_at_call 32; (with_reducible refine (ho.out _).mono ?_); rintro e w4 ⟨v4, rfl, hr4, hb4⟩)
        | (go_at_call 33; (with_reducible refine (len_any K hK2).mono ?_); rintro e w5 ⟨rfl, rfl⟩))
      have B2 := hb.trans (hb2.mono hb.size)
      have B3 := B2.trans (hb3.mono B2.size)
      have B4 := B3.trans (hb4.mono B3.size)
      have R4 := hr.below (hb2.trans ((hb3.trans (hb4.mono hb3.size)).mono hb2.size))
      have hr := Lib.hid hr; have hr4 := Lib.hid hr4; have hb := Lib.hid hb; have hb2 := Lib.hid hb2; have hb3 := Lib.hid hb3; have hb4 := Lib.hid hb4
      go_loopw [9, 8] (fun i v wr => ∃ (j : Nat) (q : Int), i = .int .i64 q ∧ q + 1 = j ∧ PowRel w A K v1 s j v wr) (fun i _ _ => ((intOf i) + 1).toNat)
      case atStart =>
        refine ⟨bitN K, _, rfl, by omega, R4, Nat.le_refl _, ?_, ?_, B4⟩
        · rw [Nat.div_eq_of_lt (bitN_lt K), Nat.pow_zero]; decide
        · rw [Nat.div_eq_of_lt (bitN_lt K)]; exact hr4.out
      case round =>
        obtain ⟨j, q, rfl, hj, hp⟩ := hrel
        have hjb := hp.le
        by_cases hj0 : j = 0
        · obtain rfl : q = -1 := by omega
          go_wp2
          subst hj0
          have hr := hp.rd; have h6 := hp.small; have h7 := hp.below
          rw [Nat.pow_zero, Nat.div_one] at hr h6
          have E : powR A K = (A ^ K, 0) := by
            unfold powR
            rw [if_neg (by omega), Int.toNat_natCast, if_neg (by omega)]
          rw [E]
          go_ret2
          exact ⟨_, rfl, hr, h7⟩
        · obtain ⟨i, rfl⟩ : ∃ i, j = i + 1 := ⟨j - 1, by omega⟩
          obtain rfl : q = (i : Int) := by omega
          have hr := hp.rd; have h6 := hp.small; have h7 := hp.below
          have R5 := hp.arg
          have l6 := digs_short (n := A ^ (K / 2 ^ (i + 1))) (k := 1024) h6
          have E1 : A ^ (K / 2 ^ i) = A ^ (K / 2 ^ (i + 1)) * A ^ (K / 2 ^ (i + 1)) * (if (K / 2 ^ i) % 2 = 1 then A else 1) := by
            rw [← Nat.pow_add, Nat.pow_succ, ← Nat.div_div_eq_div_mul]
            generalize K / 2 ^ i = q
            split
            · rw [← Nat.pow_succ]; congr 1; omega
            · rw [Nat.mul_one]; congr 1; omega
          generalize A ^ (K / 2 ^ (i + 1)) = P at *
          have H := Lib.hid hp
          clear hp
          have HQ := Lib.hid (product_any hr hr (dig_digs BB_two _) (dig_digs BB_two _) (by omega) (by omega))
          rw [val_digs BB_two] at HQ
          have HS := Lib.hid (fun w7 v7 (h : RdN w7 v7 (digs BB (P * P))) (R : RdN w7 v1 s) => product_any h R (dig_digs BB_two _) dA (Nat.le_trans (digs_short (k := 2048) (by have := bitN_mul_le P P; omega)) (by omega)) (Nat.le_trans (hsl (by omega)) (by omega)))
          rw [val_digs BB_two, eA] at HS
          have l1 : (digs BB (P * P)).length ≤ 100000 := Nat.le_trans (digs_short (k := 2048) (by have := bitN_mul_le P P; omega)) (by omega)
          have l2 : (digs BB (P * P * A)).length ≤ 100000 := Nat.le_trans (digs_short (k := 3072) (by have := bitN_mul_le P P; have := bitN_mul_le (P * P) A; omega)) (by omega)
          have HB1 := Lib.hid (fun w7 v7 (h : RdN w7 v7 (digs BB (P * P))) => bits_num h (dig_digs BB_two _) l1)
          have HB2 := Lib.hid (fun w7 v7 (h : RdN w7 v7 (digs BB (P * P * A))) => bits_num h (dig_digs BB_two _) l2)
          rw [val_digs BB_two] at HB1 HB2
          have HT := odd_test (i := i) hK2
          have E2 : 65536 < bitN (A ^ (K / 2 ^ i)) → powR A K = (0, 2) := fun h => by
            have h9 := bitN_mono (Nat.pow_le_pow_right (n := A) (by omega) (Nat.div_le_self K (2 ^ i)))
            unfold powR
            rw [if_neg (by omega), Int.toNat_natCast, if_pos (by omega)]
          have E2 := Lib.hid E2
          have E1 := Lib.hid E1
          clear hr gA hsl
          by_cases hodd : K / 2 ^ i % 2 = 1
          · rw [decide_eq_true hodd] at HT
            rw [if_pos hodd] at E1
            have HB : bitN (P * P * A) < 10000000 := by have := bitN_mul_le P P; have := bitN_mul_le (P * P) A; omega
            by_cases hbig : 65536 < bitN (P * P * A)
            · have E3 := E2.out (by rw [E1.out]; exact hbig)
              go_wp2_with (first
                | (go_at_call 34; (with_reducible refine HQ.out.mono ?_); rintro e w6 ⟨v6, rfl, hr6, hb6⟩)
                | (go_at_call 34; (with_reducible refine (HS.out _ _ hr6 (R5.below hb6)).mono ?_); rintro e w7 ⟨v7, rfl, hr7, hb7⟩)
                | (go_at_call 21; (with_reducible refine (HB2.out _ _ hr7).mono ?_); rintro e w8 ⟨rfl, hb8⟩))
              go_ret2
              have B7 := h7.trans (hb6.mono h7.size)
              have B8 := B7.trans (hb7.mono B7.size)
              rw [E3]
              exact ⟨_, rfl, RdN.nil0 _, B8.trans (hb8.mono B8.size)⟩
            · go_wp2_with (first
                | (go_at_call 34; (with_reducible refine HQ.out.mono ?_); rintro e w6 ⟨v6, rfl, hr6, hb6⟩)
                | (go_at_call 34; (with_reducible refine (HS.out _ _ hr6 (R5.below hb6)).mono ?_); rintro e w7 ⟨v7, rfl, hr7, hb7⟩)
                | (go_at_call 21; (with_reducible refine (HB2.out _ _ hr7).mono ?_); rintro e w8 ⟨rfl, hb8⟩))
              go_round
              case rel =>
                have B7 := h7.trans (hb6.mono h7.size)
                have B8 := B7.trans (hb7.mono B7.size)
                refine ⟨i, (i : Int) - 1, rfl, by omega, ((R5.below hb6).below hb7).below hb8, by omega, ?_, ?_, B8.trans (hb8.mono B8.size)⟩
                · rw [E1.out]; omega
                · rw [E1.out]; exact hr7.below hb8
              case measure => simp [intOf]
          · rw [decide_eq_false hodd] at HT
            rw [if_neg hodd, Nat.mul_one] at E1
            have HB : bitN (P * P) < 10000000 := by have := bitN_mul_le P P; omega
            by_cases hbig : 65536 < bitN (P * P)
            · have E3 := E2.out (by rw [E1.out]; exact hbig)
              go_wp2_with (first
                | (go_at_call 34; (with_reducible refine HQ.out.mono ?_); rintro e w6 ⟨v6, rfl, hr6, hb6⟩)
                | (go_at_call 21; (with_reducible refine (HB1.out _ _ hr6).mono ?_); rintro e w8 ⟨rfl, hb8⟩))
              go_ret2
              have B7 := h7.trans (hb6.mono h7.size)
              rw [E3]
              exact ⟨_, rfl, RdN.nil0 _, B7.trans (hb8.mono B7.size)⟩
            · go_wp2_with (first
                | (go_at_call 34; (with_reducible refine HQ.out.mono ?_); rintro e w6 ⟨v6, rfl, hr6, hb6⟩)
                | (go_at_call 21; (with_reducible refine (HB1.out _ _ hr6).mono ?_); rintro e w8 ⟨rfl, hb8⟩))
              go_round
              case rel =>
                have B7 := h7.trans (hb6.mono h7.size)
                refine ⟨i, (i : Int) - 1, rfl, by omega, (R5.below hb6).below hb8, by omega, ?_, ?_, B7.trans (hb8.mono B7.size)⟩
                · rw [E1.out]; omega
                · rw [E1.out]; exact hr6.below hb8
              case measure => simp [intOf]

set_option maxHeartbeats 800000 in
theorem pow_any {w : World} {v : Value} {l : List Nat} {k : Int} (hl : RdN w v l) (hdl : Dig BB l) (h1 : l.length ≤ 100000) (hk1 : -9223372036854775808 ≤ k) (hk2 : k ≤ 9223372036854775807) :
    Calls Tryd.prog 16 #[v, .int .i64 k] w (OneE w (powR (val BB l) k)) := by
  by_cases hbig : 0 < k ∧ 2 ≤ val BB l
  · obtain ⟨K, rfl⟩ := Int.eq_ofNat_of_zero_le (Int.le_of_lt hbig.1)
    exact pow_big hl hdl h1 (by omega) (by omega) hbig.2
  · have HA := bare_num hl hdl h1
    have la := digs_bound hdl h1 rfl
    generalize val BB l = A at *
    clear hl hdl h1
    have HS := Lib.hid (fun (w : World) v (h1 : RdN w v (digs BB A)) => small_any h1 la)
    rw [strip_digs BB_two] at HS
    have ho := Lib.hid (fun w => of_one (w := w))
    by_cases hneg : k < 0
    · rw [show powR A k = (0, 1) by unfold powR; rw [if_pos hneg]]
      have HS := Lib.hid (fun (w : World) v (h1 : RdN w v (digs BB A)) => ((HS.out w v h1).mono fun e w' h => (⟨_, _, h⟩ : ∃ (n : Nat) (b : Bool), e = .returned (.tuple #[L64 n, .bool b]) ∧ Below w.heap.size w w')))
      go_enter Tryd.func16, Tryd.ntmps16
      go_wp2_with (first
        | (go_at_call 23; (with_reducible refine HA.mono ?_); rintro e w1 ⟨v1, rfl, hr, hb⟩)
        | (go_at_call 31; (with_reducible refine (HS.out _ _ hr).mono ?_); rintro e w2 ⟨n, b, rfl, hb2⟩))
      all_goals (go_ret2; exact ⟨_, rfl, RdN.nil0 _, hb.trans (hb2.mono hb.size)⟩)
    · by_cases h0 : k = 0
      · subst h0
        rw [show powR A 0 = (1, 0) by unfold powR; rw [if_neg (by omega), show (0 : Int).toNat = 0 from rfl, Nat.pow_zero, if_neg (by decide)]]
        have HS := Lib.hid (fun (w : World) v (h1 : RdN w v (digs BB A)) => ((HS.out w v h1).mono fun e w' h => (⟨_, _, h⟩ : ∃ (n : Nat) (b : Bool), e = .returned (.tuple #[L64 n, .bool b]) ∧ Below w.heap.size w w')))
        go_enter Tryd.func16, Tryd.ntmps16
        go_wp2_with (first
          | (go_at_call 23; (with_reducible refine HA.mono ?_); rintro e w1 ⟨v1, rfl, hr, hb⟩)
          | (go_at_call 31; (with_reducible refine (HS.out _ _ hr).mono ?_); rintro e w2 ⟨n, b, rfl, hb2⟩)
          | (go_at_call 32; (with_reducible refine (ho.out _).mono ?_); rintro e w4 ⟨v4, rfl, hr4, hb4⟩))
        have B2 := hb.trans (hb2.mono hb.size)
        all_goals (go_ret2; exact ⟨_, rfl, hr4, B2.trans (hb4.mono B2.size)⟩)
      · have hA : A < 2 := by omega
        have E : powR A k = (A, 0) := by
          unfold powR
          have : A ^ k.toNat = A := by
            obtain rfl | rfl : A = 0 ∨ A = 1 := by omega
            · rw [Nat.zero_pow (by omega)]
            · rw [Nat.one_pow]
          rw [if_neg hneg, this, if_neg]
          have := bitN_mono (a := A) (b := 1) (by omega)
          rw [bitN_one] at this; omega
        rw [E]
        have hsm : (if (digs BB A).length ≤ 1 then (digs BB A).getD 0 0 else 0) = A ∧ (digs BB A).length ≤ 1 := by
          obtain rfl | rfl : A = 0 ∨ A = 1 := by omega
          · rw [digs_zero]; simp
          · have : digs BB 1 = [1] := by rw [digs_pos BB_two (by omega)]; rfl
            rw [this]; simp
        rw [hsm.1, decide_eq_true hsm.2] at HS
        have hd := decide_eq_true (show (A : Int) < 2 by omega)
        clear hsm
        generalize hs : digs BB A = s at HA HS la
        go_enter Tryd.func16, Tryd.ntmps16
        go_wp2_with (first
          | (go_at_call 23; (with_reducible refine HA.mono ?_); rintro e w1 ⟨v1, rfl, hr, hb⟩)
          | (go_at_call 31; (with_reducible refine (HS.out _ _ hr).mono ?_); rintro e w2 ⟨rfl, hb2⟩))
        go_ret2
        exact ⟨_, rfl, by rw [hs]; exact hr.below hb2, hb.trans (hb2.mono hb.size)⟩
end Go.Proofs.YtnoelffaccekjaaDoor
