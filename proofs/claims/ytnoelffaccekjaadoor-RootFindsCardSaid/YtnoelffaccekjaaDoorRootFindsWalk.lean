/- RootFinds returns true and leaves what was there: the walk. Conditions: math/bits' table stands in its variable. -/
import Derived.Test.YtnoelffaccekjaaDoorLaw4
import Derived.Test.YtnoelffaccekjaaDoorRefRoot2
namespace Go.Proofs.YtnoelffaccekjaaDoor.PRFind
open Go.RowKit Go.Proofs.YtnoelffaccekjaaDoor

theorem same4_true {w : World} {v u : Value} {n : Nat} (h : RdN w v (digs BB n)) (k : RdD w u (digs DD n)) (hn : bitN n ≤ 400000) :
    Calls Tryd.prog 15 #[v, u] w (fun e w' => e = .returned (.bool true) ∧ Below w.heap.size w w') := by
  have HO := rof_any k (Nat.le_trans (digsDlen hn) (by omega))
  have HS := Lib.hid (fun w1 v1 u1 (h0 : RdN w1 v1 (digs BB n)) (h1 : RdN w1 u1 (digs BB n)) => same_any h0 h1)
  rw [decide_eq_true rfl] at HS
  go_enter Tryd.func15, Tryd.ntmps15
  go_wp2_with
  (first
    | (go_at_call 30; (with_reducible refine (HO).mono ?_); rintro e w1 ⟨vo1, rfl, o1, hb1⟩; have B1 := hb1; have a1 := h.below hb1; clear h)
    | (go_at_call 22; (with_reducible refine (HS.out _ _ _ a1 o1).mono ?_); rintro e w2 ⟨rfl, hb2⟩; have B2 := B1.trans (hb2.mono B1.size); have a2 := a1.below hb2; have o2 := o1.below hb2; clear a1 o1)
    | fail)
  go_ret
  exact ⟨rfl, by assumption⟩

theorem to_n0 {w : World} {v : Value} (h : Num w v 0) : Calls Tryd.prog 9 #[v] w (OneD w []) := to_n h
theorem rbits_n0 {w : World} {v : Value} (h : RdD w v []) : Calls Tryd.prog 10 #[v] w (fun e w' => e = .returned (.int .i64 0) ∧ w' = w) := rbits_n (A := 0) h bitN_zero (by decide)
theorem rroot_n0 {w : World} {v : Value} {K : Nat} (h : RdD w v []) (hK : 1 ≤ K) (hKi : K ≤ 9223372036854775807) : Calls Tryd.prog 11 #[v, .int .i64 K] w (OneD w (digs DD 0)) := rroot_n (A := 0) h hK hKi (by decide) (IsRoot.zero hK)

theorem bits_of_len {n k : Nat} (h : (digs DD n).length ≤ k) : bitN n ≤ 16 * k := by
  have := (digs_length_le DD_two n k).1 h
  rw [DD_pow, ← Nat.pow_mul] at this
  exact bitN_le.2 this


set_option maxRecDepth 100000 in
set_option maxHeartbeats 1000000 in
theorem walk (a0 : Option Addr) (len0 cap0 : Nat) (z0 : List Int) (a1 : Int) (w : World) (w0 : IsRow .u64 w a0 len0 cap0 z0) (w1 : (Lit.int .i64 a1).wf = true) (hT : Tab w) :
    Calls Tryd.prog 3 #[.slice a0 len0 cap0, .int .i64 a1] w fun e w' => e = .returned (.bool true) ∧ Below w.heap.size w w' := by
  obtain ⟨l, hl, dl, RL, hl64⟩ := w0.nums
  have h1 : -9223372036854775808 ≤ a1 ∧ a1 ≤ 9223372036854775807 := by simpa [Lit.wf, IntKind.min, IntKind.max, IntKind.bits, IntKind.signed] using w1
  clear w0 w1
  by_cases hbig : 10 < len0 ∧ len0 < 125 ∨ 200 < len0
  · clear RL dl hl
    have dec0 : decide (10 < (len0 : Int)) = true := decide_eq_true (by omega)
    rcases hbig with hbig | hbig
    all_goals
      go_enter Tryd.func3, Tryd.ntmps3
      go_wp2_with (go_at_call 7; (with_reducible refine (alive4_any hT).mono ?_); rintro e wa ⟨rfl, hba⟩)
    all_goals
      go_ret
      exact ⟨rfl, hba⟩
  · have dec0 : decide (200 < (len0 : Int)) = false := decide_eq_false (by omega)
    have hlen : len0 ≤ 200 := by omega
    have dec1 : (decide (10 < (len0 : Int)) && decide ((len0 : Int) < 125)) = false := by
      rcases Nat.lt_or_ge 10 len0 with h | h
      · rw [decide_eq_false (p := (len0 : Int) < 125) (by omega), Bool.and_false]
      · rw [decide_eq_false (p := 10 < (len0 : Int)) (by omega), Bool.false_and]
    have HT := hT
    clear hT
    have bA := val_bits dl (show l.length ≤ 200 by omega)
    have RA := RL.numl dl (by omega)
    clear dl RL
    generalize val BB l = A at *
    have sA4 : bitN A ≤ 400000 := by omega
    have hgo : len0 ≤ 10 ∧ decide (10 < (len0 : Int)) = false ∨ 125 ≤ len0 ∧ decide (10 < (len0 : Int)) = true ∧ decide ((len0 : Int) < 125) = false := by
      rcases Nat.lt_or_ge 10 len0 with h | h
      · exact .inr ⟨by omega, decide_eq_true (by omega), decide_eq_false (by omega)⟩
      · exact .inl ⟨h, decide_eq_false (by omega)⟩
    clear dec1 hbig
    by_cases hk : a1 < 1
    · rcases hgo with ⟨hg1, hg2⟩ | ⟨hg1, hg2, hg3⟩
      all_goals
        go_enter Tryd.func3, Tryd.ntmps3
        go_wp2_with
        (first
          | (go_at_call 7; (with_reducible refine (alive4_any HT).mono ?_); rintro e w1 ⟨rfl, hb1⟩; have B1 := hb1; have a1 := RA.below hb1; have T1 := HT.below hb1; clear RA HT)
          | (go_at_call 8; (with_reducible refine (root_arg a1 hk).mono ?_); rintro e w2 ⟨rfl, hb2⟩; have B2 := B1.trans (hb2.mono B1.size); have a2 := a1.below hb2; have T2 := T1.below hb2; clear a1 T1)
          | fail)
        all_goals
          go_ret
          exact ⟨rfl, by assumption⟩
    · obtain ⟨K, rfl⟩ := Int.eq_ofNat_of_zero_le (show 0 ≤ a1 by omega)
      have hK1 : 1 ≤ K := by omega
      have hKM : K ≤ 9223372036854775807 := by omega
      have hK1' : (1 : Int) ≤ (K : Int) := by omega
      have hKM' : (K : Int) ≤ 9223372036854775807 := by omega
      have hkd : decide ((K : Int) < 1) = false := decide_eq_false (by omega)
      obtain ⟨b, hb⟩ : ∃ b, bitN A = b := ⟨_, rfl⟩
      have eb := Lib.hid hb
      by_cases hbA : 8192 < bitN A
      · have hbd : decide (8192 < (b : Int)) = true := decide_eq_true (by omega)
        clear hb
        rcases hgo with ⟨hg1, hg2⟩ | ⟨hg1, hg2, hg3⟩
        all_goals
          go_enter Tryd.func3, Tryd.ntmps3
          go_wp2_with
          (first
            | (go_at_call 7; (with_reducible refine (alive4_any HT).mono ?_); rintro e w1 ⟨rfl, hb1⟩; have B1 := hb1; have a1 := RA.below hb1; have T1 := HT.below hb1; clear RA HT)
            | (go_at_call 8; (with_reducible refine (root_long a1 hK1' hKM' hbA).mono ?_); rintro e w2 ⟨rfl, hb2⟩; have B2 := B1.trans (hb2.mono B1.size); have a2 := a1.below hb2; have T2 := T1.below hb2; clear a1 T1)
            | (go_at_call 9; (with_reducible refine (to_n a2).mono ?_); rintro e w3 ⟨vd3, rfl, d3, hb3⟩; have B3 := B2.trans (hb3.mono B2.size); have a3 := a2.below hb3; have T3 := T2.below hb3; clear a2 T2; obtain ⟨ad3, kd3, rfl, -⟩ := d3.view; try simp only [List.length_nil] at d3)
            | (go_at_call 10; (with_reducible refine (rbits_n d3 eb.out sA4).mono ?_); rintro e w4 ⟨rfl, rfl⟩)
            | fail)
          all_goals
            go_ret
            exact ⟨rfl, by assumption⟩
      · have hbd : decide (8192 < (b : Int)) = false := decide_eq_false (by omega)
        have sA8 : bitN A ≤ 8192 := by omega
        have sA40 : bitN A ≤ 40000 := by omega
        obtain ⟨R, hR⟩ := IsRoot.exists hK1 A
        obtain ⟨is, his⟩ : ∃ is, decide (R ^ K = A) = is := ⟨_, rfl⟩
        have HR := Lib.hid hR; have eis := Lib.hid his
        have q0 := bitN_mono (hR.le_self hK1)
        have sR4 : bitN R ≤ 400000 := by omega
        by_cases hd : 40 < (digs DD A).length
        · have hdd : decide (40 < ((digs DD A).length : Int)) = true := decide_eq_true (by omega)
          clear hb hR his q0
          rcases hgo with ⟨hg1, hg2⟩ | ⟨hg1, hg2, hg3⟩
          all_goals
            go_enter Tryd.func3, Tryd.ntmps3
            go_wp2_with
            (first
              | (go_at_call 7; (with_reducible refine (alive4_any HT).mono ?_); rintro e w1 ⟨rfl, hb1⟩; have B1 := hb1; have a1 := RA.below hb1; have T1 := HT.below hb1; clear RA HT)
              | (go_at_call 8; (with_reducible refine (root_n a1 T1 sA8 hK1 hKM HR.out eis.out).mono ?_); rintro e w2 ⟨vx2, rfl, x2, hb2⟩; have B2 := B1.trans (hb2.mono B1.size); have a2 := a1.below hb2; have T2 := T1.below hb2; clear a1 T1)
              | (go_at_call 9; (with_reducible refine (to_n a2).mono ?_); rintro e w3 ⟨vd3, rfl, d3, hb3⟩; have B3 := B2.trans (hb3.mono B2.size); have a3 := a2.below hb3; have T3 := T2.below hb3; have x3 := x2.below hb3; clear a2 T2 x2; obtain ⟨ad3, kd3, rfl, -⟩ := d3.view; try simp only [List.length_nil] at d3)
              | (go_at_call 10; (with_reducible refine (rbits_n d3 eb.out sA4).mono ?_); rintro e w4 ⟨rfl, rfl⟩)
              | fail)
            all_goals
              go_ret
              exact ⟨rfl, by assumption⟩
        · have hdd : decide (40 < ((digs DD A).length : Int)) = false := decide_eq_false (by omega)
          have hA640 := bits_of_len (show (digs DD A).length ≤ 40 by omega)
          by_cases h0 : A = 0
          · subst h0
            obtain rfl := hR.uniq (IsRoot.zero hK1)
            obtain rfl : is = true := by rw [← his]; exact decide_eq_true (Nat.zero_pow hK1)
            rw [digs_zero] at hdd hd
            clear hb hR his q0
            rcases hgo with ⟨hg1, hg2⟩ | ⟨hg1, hg2, hg3⟩
            all_goals
              go_enter Tryd.func3, Tryd.ntmps3
              go_wp2_with
              (first
                | (go_at_call 7; (with_reducible refine (alive4_any HT).mono ?_); rintro e w1 ⟨rfl, hb1⟩; have B1 := hb1; have a1 := RA.below hb1; have T1 := HT.below hb1; clear RA HT)
                | (go_at_call 8; (with_reducible refine (root_n a1 T1 sA8 hK1 hKM HR.out eis.out).mono ?_); rintro e w2 ⟨vx2, rfl, x2, hb2⟩; have B2 := B1.trans (hb2.mono B1.size); have a2 := a1.below hb2; have T2 := T1.below hb2; clear a1 T1)
                | (go_at_call 9; (with_reducible refine (to_n0 a2).mono ?_); rintro e w3 ⟨vd3, rfl, d3, hb3⟩; have B3 := B2.trans (hb3.mono B2.size); have a3 := a2.below hb3; have T3 := T2.below hb3; have x3 := x2.below hb3; clear a2 T2 x2; obtain ⟨ad3, kd3, rfl, -⟩ := d3.view; try simp only [List.length_nil] at d3)
                | (go_at_call 10; (with_reducible refine (rbits_n0 d3).mono ?_); rintro e w4 ⟨rfl, rfl⟩)
                | (go_at_call 11; (with_reducible refine (rroot_n0 d3 hK1 hKM).mono ?_); rintro e w5 ⟨vr5, rfl, r5, hb5⟩; have B5 := B3.trans (hb5.mono B3.size); have a5 := a3.below hb5; have T5 := T3.below hb5; have x5 := x3.below hb5; have d5 := d3.below hb5; clear a3 T3 x3 d3)
                | (go_at_call 15; (with_reducible refine (same4_true x5 r5 sR4).mono ?_); rintro e w6 ⟨rfl, hb6⟩; have B6 := B5.trans (hb6.mono B5.size); have a6 := a5.below hb6; have T6 := T5.below hb6; have x6 := x5.below hb6; have d6 := d5.below hb6; have r6 := r5.below hb6; clear a5 T5 x5 d5 r5)
                | fail)
              all_goals
                go_ret
                exact ⟨rfl, by assumption⟩
          · have hsn : digs DD A ≠ [] := fun e => h0 ((digs_nil_iff DD_two _).1 e)
            have hsl := List.length_pos_iff.2 hsn
            have hsb : (((digs DD A).length : Int) == 0) = false := beq_false_of_ne (by omega)
            have hR0 : 0 < R := by
              rcases Nat.eq_zero_or_pos R with h | h
              · have := hR.2
                rw [h, Nat.zero_add, Nat.one_pow] at this; omega
              · exact h
            obtain ⟨br, hbr⟩ : ∃ b, bitN R = b := ⟨_, rfl⟩
            have ebr := Lib.hid hbr
            by_cases h1 : R = 1
            · subst h1
              obtain rfl : br = 1 := by rw [← hbr]; exact bitN_one
              have ecr := Lib.hid (cmpN_eq 1)
              obtain ⟨c, hc⟩ : ∃ c, cmpN A 1 = c := ⟨_, rfl⟩
              have hci : (c == 0) = is := by
                rw [← his, ← hc, Nat.one_pow]
                exact decide_eq_decide.2 (cmpN_zero.trans ⟨fun h => h.symm, fun h => h.symm⟩)
              have ecd := Lib.hid hc
              clear hb hR his q0 hbr hc
              rcases hgo with ⟨hg1, hg2⟩ | ⟨hg1, hg2, hg3⟩
              all_goals
                go_enter Tryd.func3, Tryd.ntmps3
                go_wp2_with
                (first
                  | (go_at_call 7; (with_reducible refine (alive4_any HT).mono ?_); rintro e w1 ⟨rfl, hb1⟩; have B1 := hb1; have a1 := RA.below hb1; have T1 := HT.below hb1; clear RA HT)
                  | (go_at_call 8; (with_reducible refine (root_n a1 T1 sA8 hK1 hKM HR.out eis.out).mono ?_); rintro e w2 ⟨vx2, rfl, x2, hb2⟩; have B2 := B1.trans (hb2.mono B1.size); have a2 := a1.below hb2; have T2 := T1.below hb2; clear a1 T1)
                  | (go_at_call 9; (with_reducible refine (to_n a2).mono ?_); rintro e w3 ⟨vd3, rfl, d3, hb3⟩; have B3 := B2.trans (hb3.mono B2.size); have a3 := a2.below hb3; have T3 := T2.below hb3; have x3 := x2.below hb3; clear a2 T2 x2; obtain ⟨ad3, kd3, rfl, -⟩ := d3.view; try simp only [List.length_nil] at d3)
                  | (go_at_call 10; (with_reducible refine (rbits_n d3 eb.out sA4).mono ?_); rintro e w4 ⟨rfl, rfl⟩)
                  | (go_at_call 11; (with_reducible refine (rroot_n d3 hK1 hKM sA40 HR.out).mono ?_); rintro e w5 ⟨vr5, rfl, r5, hb5⟩; have B5 := B3.trans (hb5.mono B3.size); have a5 := a3.below hb5; have T5 := T3.below hb5; have x5 := x3.below hb5; have d5 := d3.below hb5; clear a3 T3 x3 d3)
                  | (go_at_call 13; (with_reducible refine (num_one).mono ?_); rintro e w6 ⟨vo6, rfl, o6, hb6⟩; have B6 := B5.trans (hb6.mono B5.size); have a6 := a5.below hb6; have T6 := T5.below hb6; have x6 := x5.below hb6; have d6 := d5.below hb6; have r6 := r5.below hb6; clear a5 T5 x5 d5 r5)
                  | (go_at_call 12; (with_reducible refine (rcmp_n r6 o6 ecr.out sR4).mono ?_); rintro e w7 ⟨rfl, hb7⟩; have B7 := B6.trans (hb7.mono B6.size); have a7 := a6.below hb7; have T7 := T6.below hb7; have x7 := x6.below hb7; have d7 := d6.below hb7; have r7 := r6.below hb7; have o7 := o6.below hb7; clear a6 T6 x6 d6 r6 o6)
                  | (go_at_call 12; (with_reducible refine (rcmp_n d7 r7 ecd.out sA4).mono ?_); rintro e w8 ⟨rfl, hb8⟩; have B8 := B7.trans (hb8.mono B7.size); have a8 := a7.below hb8; have T8 := T7.below hb8; have x8 := x7.below hb8; have d8 := d7.below hb8; have r8 := r7.below hb8; have o8 := o7.below hb8; clear a7 T7 x7 d7 r7 o7)
                  | (go_at_call 10; (with_reducible refine (rbits_n r8 ebr.out sR4).mono ?_); rintro e w9 ⟨rfl, rfl⟩)
                  | (go_at_call 15; (with_reducible refine (same4_true x8 r8 sR4).mono ?_); rintro e w10 ⟨rfl, hb10⟩; have B10 := B8.trans (hb10.mono B8.size); have a10 := a8.below hb10; have T10 := T8.below hb10; have x10 := x8.below hb10; have d10 := d8.below hb10; have r10 := r8.below hb10; have o10 := o8.below hb10; clear a8 T8 x8 d8 r8 o8)
                  | fail)
                all_goals
                  go_ret
                  exact ⟨rfl, by assumption⟩
            · have hR2 : 2 ≤ R := by omega
              obtain ⟨cr, hcr, hcr0⟩ : ∃ c, cmpN R 1 = c ∧ c ≠ 0 := ⟨_, rfl, fun h => h1 (cmpN_zero.1 h)⟩
              have hcrb : (cr == 0) = false := beq_false_of_ne hcr0
              have ecr := Lib.hid hcr
              have g1 := bitN_mono hR.1
              have g2 := bitN_pow_ge (show R ≠ 0 by omega) K
              have g3 : 2 ≤ bitN R := lt_bitN.2 (by simpa using hR2)
              have g4 := Nat.mul_le_mul_right K (show 1 ≤ bitN R - 1 by omega)
              have g5 : bitN R * K = (bitN R - 1) * K + K := by
                rw [← Nat.succ_mul]; congr 1; omega
              have hp1 : bitN R * K ≤ 300000 := by omega
              have hp2 : bitN R ≤ 300000 := by omega
              have hp3 : K ≤ 300000 := by omega
              have sP4 : bitN (R ^ K) ≤ 400000 := by omega
              obtain ⟨c, hc⟩ : ∃ c, cmpN (R ^ K) A = c := ⟨_, rfl⟩
              have hci : (c == 0) = is := by
                rw [← his, ← hc]
                exact decide_eq_decide.2 cmpN_zero
              have ecp := Lib.hid hc
              have hbrd : decide (1 < (br : Int)) = true := decide_eq_true (by omega)
              clear hb hR his q0 hbr hc hcr g1 g2 g3 g4 g5
              rcases hgo with ⟨hg1, hg2⟩ | ⟨hg1, hg2, hg3⟩
              all_goals
                go_enter Tryd.func3, Tryd.ntmps3
                go_wp2_with
                (first
                  | (go_at_call 7; (with_reducible refine (alive4_any HT).mono ?_); rintro e w1 ⟨rfl, hb1⟩; have B1 := hb1; have a1 := RA.below hb1; have T1 := HT.below hb1; clear RA HT)
                  | (go_at_call 8; (with_reducible refine (root_n a1 T1 sA8 hK1 hKM HR.out eis.out).mono ?_); rintro e w2 ⟨vx2, rfl, x2, hb2⟩; have B2 := B1.trans (hb2.mono B1.size); have a2 := a1.below hb2; have T2 := T1.below hb2; clear a1 T1)
                  | (go_at_call 9; (with_reducible refine (to_n a2).mono ?_); rintro e w3 ⟨vd3, rfl, d3, hb3⟩; have B3 := B2.trans (hb3.mono B2.size); have a3 := a2.below hb3; have T3 := T2.below hb3; have x3 := x2.below hb3; clear a2 T2 x2; obtain ⟨ad3, kd3, rfl, -⟩ := d3.view; try simp only [List.length_nil] at d3)
                  | (go_at_call 10; (with_reducible refine (rbits_n d3 eb.out sA4).mono ?_); rintro e w4 ⟨rfl, rfl⟩)
                  | (go_at_call 11; (with_reducible refine (rroot_n d3 hK1 hKM sA40 HR.out).mono ?_); rintro e w5 ⟨vr5, rfl, r5, hb5⟩; have B5 := B3.trans (hb5.mono B3.size); have a5 := a3.below hb5; have T5 := T3.below hb5; have x5 := x3.below hb5; have d5 := d3.below hb5; clear a3 T3 x3 d3)
                  | (go_at_call 13; (with_reducible refine (num_one).mono ?_); rintro e w6 ⟨vo6, rfl, o6, hb6⟩; have B6 := B5.trans (hb6.mono B5.size); have a6 := a5.below hb6; have T6 := T5.below hb6; have x6 := x5.below hb6; have d6 := d5.below hb6; have r6 := r5.below hb6; clear a5 T5 x5 d5 r5)
                  | (go_at_call 12; (with_reducible refine (rcmp_n r6 o6 ecr.out sR4).mono ?_); rintro e w7 ⟨rfl, hb7⟩; have B7 := B6.trans (hb7.mono B6.size); have a7 := a6.below hb7; have T7 := T6.below hb7; have x7 := x6.below hb7; have d7 := d6.below hb7; have r7 := r6.below hb7; have o7 := o6.below hb7; clear a6 T6 x6 d6 r6 o6)
                  | (go_at_call 10; (with_reducible refine (rbits_n r7 ebr.out sR4).mono ?_); rintro e w8 ⟨rfl, rfl⟩)
                  | (go_at_call 14; (with_reducible refine (rpow_any r7 hp1 hp2 hp3).mono ?_); rintro e w9 ⟨vp9, rfl, p9, hb9⟩; have B9 := B7.trans (hb9.mono B7.size); have a9 := a7.below hb9; have T9 := T7.below hb9; have x9 := x7.below hb9; have d9 := d7.below hb9; have r9 := r7.below hb9; have o9 := o7.below hb9; clear a7 T7 x7 d7 r7 o7)
                  | (go_at_call 12; (with_reducible refine (rcmp_n p9 d9 ecp.out sP4).mono ?_); rintro e w10 ⟨rfl, hb10⟩; have B10 := B9.trans (hb10.mono B9.size); have a10 := a9.below hb10; have T10 := T9.below hb10; have x10 := x9.below hb10; have d10 := d9.below hb10; have r10 := r9.below hb10; have o10 := o9.below hb10; have p10 := p9.below hb10; clear a9 T9 x9 d9 r9 o9 p9)
                  | (go_at_call 15; (with_reducible refine (same4_true x10 r10 sR4).mono ?_); rintro e w11 ⟨rfl, hb11⟩; have B11 := B10.trans (hb11.mono B10.size); have a11 := a10.below hb11; have T11 := T10.below hb11; have x11 := x10.below hb11; have d11 := d10.below hb11; have r11 := r10.below hb11; have o11 := o10.below hb11; have p11 := p10.below hb11; clear a10 T10 x10 d10 r10 o10 p10)
                  | fail)
                all_goals
                  go_ret
                  exact ⟨rfl, by assumption⟩
end Go.Proofs.YtnoelffaccekjaaDoor.PRFind
