/- RootHalves returns true and leaves what was there: the walk. Conditions: math/bits' table stands in its variable. -/
import Derived.Test.YtnoelffaccekjaaDoorLaw4
namespace Go.Proofs.YtnoelffaccekjaaDoor.PRHalf
open Go.RowKit Go.Proofs.YtnoelffaccekjaaDoor

/-- root.Order, whatever is asked. -/
theorem order_arg {w : World} {v : Value} {A : Nat} {m : Int} (h : Num w v A) (hm : m < 0 ∨ A = 0) :
    Calls Tryd.prog 20 #[v, .int .i64 m] w (fun e w' => e = .returned (.tuple #[.int .i64 0, .int .i64 1]) ∧ Below w.heap.size w w') := by
  by_cases h0 : m < 0
  · go_enter Tryd.func20, Tryd.ntmps20
    go_wp2_with
    (first
      | (go_at_call 23; (with_reducible refine (bare_n h).mono ?_); rintro e w1 ⟨vs1, rfl, s1, hb1⟩; have B1 := hb1; have a1 := h.below hb1; clear h; obtain ⟨as1, ks1, rfl, -⟩ := s1.view; try simp only [List.length_nil] at s1)
      | fail)
    all_goals
      go_ret2
      exact ⟨rfl, by assumption⟩
  · obtain rfl : A = 0 := by omega
    go_enter Tryd.func20, Tryd.ntmps20
    go_wp2_with
    (first
      | (go_at_call 23; (with_reducible refine (bare_n h).mono ?_); rintro e w1 ⟨vs1, rfl, s1, hb1⟩; have B1 := hb1; have a1 := h.below hb1; clear h; obtain ⟨as1, ks1, rfl⟩ := s1.rnone)
      | fail)
    all_goals
      go_ret2
      exact ⟨rfl, by assumption⟩


theorem order_is {A M n K H : Nat} {is : Bool} (h : IsOrder A M n) (hK : K ≤ M) (hH : IsRoot A (2 ^ K) H) (his : decide (H ^ 2 ^ K = A) = is) : decide (K ≤ n) = is := by
  rw [← his]
  refine decide_eq_decide.2 ?_
  have h1 := h.2 K hK
  rw [h1]
  constructor
  · rintro ⟨c, hc⟩
    have h2 : IsRoot A (2 ^ K) c := by rw [← hc]; exact IsRoot.pow (Nat.pow_pos (by omega))
    rw [hH.uniq h2, hc]
  · exact fun h => ⟨H, h⟩

set_option maxRecDepth 100000 in
set_option maxHeartbeats 1000000 in
theorem walk (a0 : Option Addr) (len0 cap0 : Nat) (z0 : List Int) (a1 a2 : Int) (w : World) (w0 : IsRow .u64 w a0 len0 cap0 z0) (w1 : (Lit.int .i64 a1).wf = true) (w2 : (Lit.int .i64 a2).wf = true) (hT : Tab w) :
    Calls Tryd.prog 6 #[.slice a0 len0 cap0, .int .i64 a1, .int .i64 a2] w fun e w' => e = .returned (.bool true) ∧ Below w.heap.size w w' := by
  obtain ⟨l, hl, dl, RL, hl64⟩ := w0.nums
  have h1 : -9223372036854775808 ≤ a1 ∧ a1 ≤ 9223372036854775807 := by simpa [Lit.wf, IntKind.min, IntKind.max, IntKind.bits, IntKind.signed] using w1
  have h2 : -9223372036854775808 ≤ a2 ∧ a2 ≤ 9223372036854775807 := by simpa [Lit.wf, IntKind.min, IntKind.max, IntKind.bits, IntKind.signed] using w2
  clear w0 w1 w2
  have h1B : 1 < BB := by decide
  by_cases hb0 : 10 < len0
  · clear RL dl hl
    go_enter Tryd.func6, Tryd.ntmps6
    go_wp2_with (go_at_call 7; (with_reducible refine (alive4_any hT).mono ?_); rintro e wa ⟨rfl, hba⟩)
    go_ret
    exact ⟨rfl, hba⟩
  · have dec0 : decide (10 < (len0 : Int)) = false := decide_eq_false (by omega)
    have HT := hT
    clear hT
    have bA := val_bits dl (show l.length ≤ 10 by omega)
    have RA := RL.numl dl (by omega)
    clear dl RL
    generalize val BB l = A at *
    have sA8 : bitN A ≤ 8192 := by omega
    obtain ⟨b, hb⟩ : ∃ b, bitN A = b := ⟨_, rfl⟩
    have eb := Lib.hid hb
    have hbz : b = 0 ↔ A = 0 := ⟨fun h => eq_zero_of_bitN (by omega), fun h => by rw [← hb, h, bitN_zero]⟩
    have hbb : (A ≠ 0 → ((b : Int) == 0) = false) := fun h => beq_false_of_ne (by have := hbz; omega)
    by_cases hk : a1 < 0
    · by_cases hm0 : a2 < 0
      · have dm : decide (a2 < 0) = true := decide_eq_true hm0
        have hm : a2 < 0 ∨ A = 0 := .inl hm0
        clear hbz hbb hb
        go_enter Tryd.func6, Tryd.ntmps6
        go_wp2_with
          (first
            | (go_at_call 7; (with_reducible refine (alive4_any HT).mono ?_); rintro e w1 ⟨rfl, hb1⟩; have B1 := hb1; have a1 := RA.below hb1; have T1 := HT.below hb1; clear RA HT)
            | (go_at_call 19; (with_reducible refine (halves_arg a1 hk).mono ?_); rintro e w2 ⟨rfl, hb2⟩; have B2 := B1.trans (hb2.mono B1.size); have a2 := a1.below hb2; have T2 := T1.below hb2; clear a1 T1)
            | (go_at_call 20; (with_reducible refine (order_arg a2 hm).mono ?_); rintro e w3 ⟨rfl, hb3⟩; have B3 := B2.trans (hb3.mono B2.size); have a3 := a2.below hb3; have T3 := T2.below hb3; clear a2 T2)
            | (go_at_call 21; (with_reducible refine (bits_n a3 eb.out).mono ?_); rintro e w4 ⟨rfl, hb4⟩; have B4 := B3.trans (hb4.mono B3.size); have a4 := a3.below hb4; have T4 := T3.below hb4; clear a3 T3)
            | fail)
        all_goals
          go_ret
          exact ⟨rfl, by assumption⟩
      · have dm : decide (a2 < 0) = false := decide_eq_false hm0
        by_cases h0 : A = 0
        · have hm : a2 < 0 ∨ A = 0 := .inr h0
          obtain rfl : b = 0 := hbz.2 h0
          clear hbz hbb hb
          go_enter Tryd.func6, Tryd.ntmps6
          go_wp2_with
            (first
              | (go_at_call 7; (with_reducible refine (alive4_any HT).mono ?_); rintro e w1 ⟨rfl, hb1⟩; have B1 := hb1; have a1 := RA.below hb1; have T1 := HT.below hb1; clear RA HT)
              | (go_at_call 19; (with_reducible refine (halves_arg a1 hk).mono ?_); rintro e w2 ⟨rfl, hb2⟩; have B2 := B1.trans (hb2.mono B1.size); have a2 := a1.below hb2; have T2 := T1.below hb2; clear a1 T1)
              | (go_at_call 20; (with_reducible refine (order_arg a2 hm).mono ?_); rintro e w3 ⟨rfl, hb3⟩; have B3 := B2.trans (hb3.mono B2.size); have a3 := a2.below hb3; have T3 := T2.below hb3; clear a2 T2)
              | (go_at_call 21; (with_reducible refine (bits_n a3 eb.out).mono ?_); rintro e w4 ⟨rfl, hb4⟩; have B4 := B3.trans (hb4.mono B3.size); have a4 := a3.below hb4; have T4 := T3.below hb4; clear a3 T3)
              | fail)
          all_goals
            go_ret
            exact ⟨rfl, by assumption⟩
        · have db := hbb h0
          have dbn : (b : Int) ≠ 0 := by have := hbz; omega
          obtain ⟨M, rfl⟩ := Int.eq_ofNat_of_zero_le (show 0 ≤ a2 by omega)
          have hA0 := h0
          have hMM : M ≤ 9223372036854775807 := by omega
          clear hbz hbb hb
          go_enter Tryd.func6, Tryd.ntmps6
          go_wp2_with
            (first
              | (go_at_call 7; (with_reducible refine (alive4_any HT).mono ?_); rintro e w1 ⟨rfl, hb1⟩; have B1 := hb1; have a1 := RA.below hb1; have T1 := HT.below hb1; clear RA HT)
              | (go_at_call 19; (with_reducible refine (halves_arg a1 hk).mono ?_); rintro e w2 ⟨rfl, hb2⟩; have B2 := B1.trans (hb2.mono B1.size); have a2 := a1.below hb2; have T2 := T1.below hb2; clear a1 T1)
              | (go_at_call 20; (with_reducible refine (order_n a2 T2 hA0 sA8 hMM).mono ?_); rintro e w3 ⟨n, rfl, hO, hb3⟩; have B3 := B2.trans (hb3.mono B2.size); have a3 := a2.below hb3; have T3 := T2.below hb3; clear a2 T2)
              | (go_at_call 21; (with_reducible refine (bits_n a3 eb.out).mono ?_); rintro e w4 ⟨rfl, hb4⟩; have B4 := B3.trans (hb4.mono B3.size); have a4 := a3.below hb4; have T4 := T3.below hb4; clear a3 T3)
              | fail)
          all_goals
            go_ret
            exact ⟨rfl, by assumption⟩
    · obtain ⟨K, rfl⟩ := Int.eq_ofNat_of_zero_le (show 0 ≤ a1 by omega)
      have hKM : K ≤ 9223372036854775807 := by omega
      have hkd : decide ((K : Int) < 0) = false := decide_eq_false (by omega)
      obtain ⟨H, hH⟩ := IsRoot.exists (show 0 < 2 ^ K from Nat.pow_pos (by omega)) A
      obtain ⟨is, his⟩ : ∃ is, decide (H ^ 2 ^ K = A) = is := ⟨_, rfl⟩
      have q0 := bitN_mono (hH.le_self (Nat.pow_pos (by omega)))
      have sH : bitN H ≤ 2560000 := by omega
      have HH := Lib.hid hH; have eis := Lib.hid his
      by_cases hK10 : 10 < K
      · have hkd2 : decide (10 < (K : Int)) = true := decide_eq_true (by omega)
        by_cases h0 : A = 0
        · obtain rfl : b = 0 := hbz.2 h0
          have hm : a2 < 0 ∨ A = 0 := .inr h0
          have hH0 : H = 0 := hH.uniq (by rw [h0]; exact IsRoot.zero (Nat.pow_pos (by omega)))
          have hist : is = true := by rw [← his, hH0, h0]; exact decide_eq_true (Nat.zero_pow (Nat.pow_pos (by omega)))
          rw [hH0] at HH eis
          subst hist
          clear hbz hbb hb hH his q0 sH hH0
          by_cases hm0 : a2 < 0
          · have dm : decide (a2 < 0) = true := decide_eq_true hm0
            go_enter Tryd.func6, Tryd.ntmps6
            go_wp2_with
              (first
                | (go_at_call 7; (with_reducible refine (alive4_any HT).mono ?_); rintro e w1 ⟨rfl, hb1⟩; have B1 := hb1; have a1 := RA.below hb1; have T1 := HT.below hb1; clear RA HT)
                | (go_at_call 19; (with_reducible refine (halves_n a1 T1 sA8 hKM HH.out eis.out).mono ?_); rintro e w2 ⟨vx2, rfl, x2, hb2⟩; have B2 := B1.trans (hb2.mono B1.size); have a2 := a1.below hb2; have T2 := T1.below hb2; clear a1 T1; obtain ⟨ax2, kx2, rfl⟩ := x2.rnone)
                | (go_at_call 20; (with_reducible refine (order_arg a2 hm).mono ?_); rintro e w3 ⟨rfl, hb3⟩; have B3 := B2.trans (hb3.mono B2.size); have a3 := a2.below hb3; have T3 := T2.below hb3; have x3 := x2.below hb3; clear a2 T2 x2)
                | (go_at_call 21; (with_reducible refine (bits_n a3 eb.out).mono ?_); rintro e w4 ⟨rfl, hb4⟩; have B4 := B3.trans (hb4.mono B3.size); have a4 := a3.below hb4; have T4 := T3.below hb4; have x4 := x3.below hb4; clear a3 T3 x3)
                | fail)
            all_goals
              go_ret
              exact ⟨rfl, by assumption⟩
          · have dm : decide (a2 < 0) = false := decide_eq_false hm0
            go_enter Tryd.func6, Tryd.ntmps6
            go_wp2_with
              (first
                | (go_at_call 7; (with_reducible refine (alive4_any HT).mono ?_); rintro e w1 ⟨rfl, hb1⟩; have B1 := hb1; have a1 := RA.below hb1; have T1 := HT.below hb1; clear RA HT)
                | (go_at_call 19; (with_reducible refine (halves_n a1 T1 sA8 hKM HH.out eis.out).mono ?_); rintro e w2 ⟨vx2, rfl, x2, hb2⟩; have B2 := B1.trans (hb2.mono B1.size); have a2 := a1.below hb2; have T2 := T1.below hb2; clear a1 T1; obtain ⟨ax2, kx2, rfl⟩ := x2.rnone)
                | (go_at_call 20; (with_reducible refine (order_arg a2 hm).mono ?_); rintro e w3 ⟨rfl, hb3⟩; have B3 := B2.trans (hb3.mono B2.size); have a3 := a2.below hb3; have T3 := T2.below hb3; have x3 := x2.below hb3; clear a2 T2 x2)
                | (go_at_call 21; (with_reducible refine (bits_n a3 eb.out).mono ?_); rintro e w4 ⟨rfl, hb4⟩; have B4 := B3.trans (hb4.mono B3.size); have a4 := a3.below hb4; have T4 := T3.below hb4; have x4 := x3.below hb4; clear a3 T3 x3)
                | fail)
            all_goals
              go_ret
              exact ⟨rfl, by assumption⟩
        · have db := hbb h0
          have dbn : (b : Int) ≠ 0 := by have := hbz; omega
          have db2 : decide (0 < (b : Int)) = true := decide_eq_true (by have := hbz; omega)
          have hA2 : A < 2 ^ 2 ^ K := by
            refine bitN_le.1 (Nat.le_trans bA ?_)
            have := Nat.pow_le_pow_right (n := 2) (by omega) (show 11 ≤ K by omega)
            omega
          have hH1 : H = 1 := hH.uniq (IsRoot.small h0 hA2)
          rw [hH1] at HH eis sH
          have hisb : ((b : Int) == 1) = is := by
            rw [← his, hH1, Nat.one_pow]
            refine decide_eq_decide.2 ⟨fun h => ?_, fun h => ?_⟩
            · have h1 := bitN_lt A
              rw [hb, show b = 1 by omega] at h1
              omega
            · rw [← hb, ← h, bitN_one]; rfl
          clear hbz hbb hb hH his q0 hH1 hA2
          by_cases hm0 : a2 < 0
          · have dm : decide (a2 < 0) = true := decide_eq_true hm0
            have hm : a2 < 0 ∨ A = 0 := .inl hm0
            go_enter Tryd.func6, Tryd.ntmps6
            go_wp2_with
              (first
                | (go_at_call 7; (with_reducible refine (alive4_any HT).mono ?_); rintro e w1 ⟨rfl, hb1⟩; have B1 := hb1; have a1 := RA.below hb1; have T1 := HT.below hb1; clear RA HT)
                | (go_at_call 19; (with_reducible refine (halves_n a1 T1 sA8 hKM HH.out eis.out).mono ?_); rintro e w2 ⟨vx2, rfl, x2, hb2⟩; have B2 := B1.trans (hb2.mono B1.size); have a2 := a1.below hb2; have T2 := T1.below hb2; clear a1 T1)
                | (go_at_call 20; (with_reducible refine (order_arg a2 hm).mono ?_); rintro e w3 ⟨rfl, hb3⟩; have B3 := B2.trans (hb3.mono B2.size); have a3 := a2.below hb3; have T3 := T2.below hb3; have x3 := x2.below hb3; clear a2 T2 x2)
                | (go_at_call 21; (with_reducible refine (bits_n a3 eb.out).mono ?_); rintro e w4 ⟨rfl, hb4⟩; have B4 := B3.trans (hb4.mono B3.size); have a4 := a3.below hb4; have T4 := T3.below hb4; have x4 := x3.below hb4; clear a3 T3 x3)
                | (go_at_call 17; (with_reducible refine (cmp_n ((x4.below (below_alloc _ _)).num sH) (RdN.num1 ?_ h1B) (cmpN_eq 1)).mono ?_); (exact rd_one (heap_alloc_new _ _) trivial); rintro e w5 ⟨rfl, hb5⟩; have hb5' := (below_a hb5); have B5 := B4.trans (hb5'.mono B4.size); have a5 := a4.below hb5'; have T5 := T4.below hb5'; have x5 := x4.below hb5'; clear a4 T4 x4)
                | fail)
            all_goals
              go_ret
              exact ⟨rfl, by assumption⟩
          · have dm : decide (a2 < 0) = false := decide_eq_false hm0
            obtain ⟨M, rfl⟩ := Int.eq_ofNat_of_zero_le (show 0 ≤ a2 by omega)
            have hA0 := h0
            have hMM : M ≤ 9223372036854775807 := by omega
            go_enter Tryd.func6, Tryd.ntmps6
            go_wp2_with
              (first
                | (go_at_call 7; (with_reducible refine (alive4_any HT).mono ?_); rintro e w1 ⟨rfl, hb1⟩; have B1 := hb1; have a1 := RA.below hb1; have T1 := HT.below hb1; clear RA HT)
                | (go_at_call 19; (with_reducible refine (halves_n a1 T1 sA8 hKM HH.out eis.out).mono ?_); rintro e w2 ⟨vx2, rfl, x2, hb2⟩; have B2 := B1.trans (hb2.mono B1.size); have a2 := a1.below hb2; have T2 := T1.below hb2; clear a1 T1)
                | (go_at_call 20; (with_reducible refine (order_n a2 T2 hA0 sA8 hMM).mono ?_); rintro e w3 ⟨n, rfl, hO, hb3⟩; have B3 := B2.trans (hb3.mono B2.size); have a3 := a2.below hb3; have T3 := T2.below hb3; have x3 := x2.below hb3; clear a2 T2 x2)
                | (go_at_call 21; (with_reducible refine (bits_n a3 eb.out).mono ?_); rintro e w4 ⟨rfl, hb4⟩; have B4 := B3.trans (hb4.mono B3.size); have a4 := a3.below hb4; have T4 := T3.below hb4; have x4 := x3.below hb4; clear a3 T3 x3)
                | (go_at_call 17; (with_reducible refine (cmp_n ((x4.below (below_alloc _ _)).num sH) (RdN.num1 ?_ h1B) (cmpN_eq 1)).mono ?_); (exact rd_one (heap_alloc_new _ _) trivial); rintro e w5 ⟨rfl, hb5⟩; have hb5' := (below_a hb5); have B5 := B4.trans (hb5'.mono B4.size); have a5 := a4.below hb5'; have T5 := T4.below hb5'; have x5 := x4.below hb5'; clear a4 T4 x4)
                | fail)
            all_goals
              go_ret
              exact ⟨rfl, by assumption⟩
      · have hkd2 : decide (10 < (K : Int)) = false := decide_eq_false (by omega)
        have hP10 := Nat.pow_le_pow_right (n := 2) (by omega) (show K ≤ 10 by omega)
        have hP0 : 0 < 2 ^ K := Nat.pow_pos (by omega)
        have HO := Lib.hid (fun M n (h : IsOrder A M n) (hK : K ≤ M) => order_is h hK hH his)
        obtain ⟨P, hP⟩ : ∃ P, 2 ^ K = P := ⟨_, rfl⟩
        have HH2 := Lib.hid (show IsRoot A P H by rw [← hP]; exact hH)
        have eis2 := Lib.hid (show decide (H ^ P = A) = is by rw [← hP]; exact his)
        rw [hP] at hP10 hP0
        have hpw : wrap64 ((2 : Int) ^ K) = (P : Int) := by
          rw [← hP, show ((2 ^ K : Nat) : Int) = (2 : Int) ^ K by rw [Int.natCast_pow]; rfl]
          have : (2 : Int) ^ K = (P : Int) := by rw [← hP, Int.natCast_pow]; rfl
          rw [this]; unfold wrap64; omega
        have hP1 : 1 ≤ P := hP0
        have hPM : P ≤ 9223372036854775807 := Nat.le_trans hP10 (by decide)
        clear hP
        by_cases hm0 : a2 < 0
        · have dm : decide (a2 < 0) = true := decide_eq_true hm0
          have hm : a2 < 0 ∨ A = 0 := .inl hm0
          clear hbz hbb hb hH his q0
          go_enter Tryd.func6, Tryd.ntmps6
          go_wp2_with
            (first
              | (go_at_call 7; (with_reducible refine (alive4_any HT).mono ?_); rintro e w1 ⟨rfl, hb1⟩; have B1 := hb1; have a1 := RA.below hb1; have T1 := HT.below hb1; clear RA HT)
              | (go_at_call 19; (with_reducible refine (halves_n a1 T1 sA8 hKM HH.out eis.out).mono ?_); rintro e w2 ⟨vx2, rfl, x2, hb2⟩; have B2 := B1.trans (hb2.mono B1.size); have a2 := a1.below hb2; have T2 := T1.below hb2; clear a1 T1)
              | (go_at_call 20; (with_reducible refine (order_arg a2 hm).mono ?_); rintro e w3 ⟨rfl, hb3⟩; have B3 := B2.trans (hb3.mono B2.size); have a3 := a2.below hb3; have T3 := T2.below hb3; have x3 := x2.below hb3; clear a2 T2 x2)
              | (go_at_call 21; (with_reducible refine (bits_n a3 eb.out).mono ?_); rintro e w4 ⟨rfl, hb4⟩; have B4 := B3.trans (hb4.mono B3.size); have a4 := a3.below hb4; have T4 := T3.below hb4; have x4 := x3.below hb4; clear a3 T3 x3)
              | (go_at_call 8; (with_reducible refine (root_n a4 T4 sA8 hP1 hPM HH2.out eis2.out).mono ?_); rintro e w5 ⟨vy5, rfl, y5, hb5⟩; have B5 := B4.trans (hb5.mono B4.size); have a5 := a4.below hb5; have T5 := T4.below hb5; have x5 := x4.below hb5; clear a4 T4 x4)
              | (go_at_call 17; (with_reducible refine (cmp_n (x5.num sH) (y5.num sH) (cmpN_eq _)).mono ?_); rintro e w6 ⟨rfl, hb6⟩; have B6 := B5.trans (hb6.mono B5.size); have a6 := a5.below hb6; have T6 := T5.below hb6; have x6 := x5.below hb6; have y6 := y5.below hb6; clear a5 T5 x5 y5)
              | fail)
          all_goals
            go_ret
            exact ⟨rfl, by assumption⟩
        · have dm : decide (a2 < 0) = false := decide_eq_false hm0
          by_cases h0 : A = 0
          · obtain rfl : b = 0 := hbz.2 h0
            have hm : a2 < 0 ∨ A = 0 := .inr h0
            clear hbz hbb hb hH his q0
            go_enter Tryd.func6, Tryd.ntmps6
            go_wp2_with
              (first
                | (go_at_call 7; (with_reducible refine (alive4_any HT).mono ?_); rintro e w1 ⟨rfl, hb1⟩; have B1 := hb1; have a1 := RA.below hb1; have T1 := HT.below hb1; clear RA HT)
                | (go_at_call 19; (with_reducible refine (halves_n a1 T1 sA8 hKM HH.out eis.out).mono ?_); rintro e w2 ⟨vx2, rfl, x2, hb2⟩; have B2 := B1.trans (hb2.mono B1.size); have a2 := a1.below hb2; have T2 := T1.below hb2; clear a1 T1)
                | (go_at_call 20; (with_reducible refine (order_arg a2 hm).mono ?_); rintro e w3 ⟨rfl, hb3⟩; have B3 := B2.trans (hb3.mono B2.size); have a3 := a2.below hb3; have T3 := T2.below hb3; have x3 := x2.below hb3; clear a2 T2 x2)
                | (go_at_call 21; (with_reducible refine (bits_n a3 eb.out).mono ?_); rintro e w4 ⟨rfl, hb4⟩; have B4 := B3.trans (hb4.mono B3.size); have a4 := a3.below hb4; have T4 := T3.below hb4; have x4 := x3.below hb4; clear a3 T3 x3)
                | (go_at_call 8; (with_reducible refine (root_n a4 T4 sA8 hP1 hPM HH2.out eis2.out).mono ?_); rintro e w5 ⟨vy5, rfl, y5, hb5⟩; have B5 := B4.trans (hb5.mono B4.size); have a5 := a4.below hb5; have T5 := T4.below hb5; have x5 := x4.below hb5; clear a4 T4 x4)
                | (go_at_call 17; (with_reducible refine (cmp_n (x5.num sH) (y5.num sH) (cmpN_eq _)).mono ?_); rintro e w6 ⟨rfl, hb6⟩; have B6 := B5.trans (hb6.mono B5.size); have a6 := a5.below hb6; have T6 := T5.below hb6; have x6 := x5.below hb6; have y6 := y5.below hb6; clear a5 T5 x5 y5)
                | fail)
            all_goals
              go_ret
              exact ⟨rfl, by assumption⟩
          · have db := hbb h0
            have dbn : (b : Int) ≠ 0 := by have := hbz; omega
            obtain ⟨M, rfl⟩ := Int.eq_ofNat_of_zero_le (show 0 ≤ a2 by omega)
            have hA0 := h0
            have hMM : M ≤ 9223372036854775807 := by omega
            clear hbz hbb hb hH his q0
            by_cases hKM2 : K ≤ M
            · have dKM : decide (M < K) = false := decide_eq_false (by omega)
              go_enter Tryd.func6, Tryd.ntmps6
              go_wp2_with
                (first
                  | (go_at_call 7; (with_reducible refine (alive4_any HT).mono ?_); rintro e w1 ⟨rfl, hb1⟩; have B1 := hb1; have a1 := RA.below hb1; have T1 := HT.below hb1; clear RA HT)
                  | (go_at_call 19; (with_reducible refine (halves_n a1 T1 sA8 hKM HH.out eis.out).mono ?_); rintro e w2 ⟨vx2, rfl, x2, hb2⟩; have B2 := B1.trans (hb2.mono B1.size); have a2 := a1.below hb2; have T2 := T1.below hb2; clear a1 T1)
                  | (go_at_call 20; (with_reducible refine (order_n a2 T2 hA0 sA8 hMM).mono ?_); rintro e w3 ⟨n, rfl, hO, hb3⟩; have B3 := B2.trans (hb3.mono B2.size); have a3 := a2.below hb3; have T3 := T2.below hb3; have x3 := x2.below hb3; clear a2 T2 x2; have hnk := HO.out _ _ hO hKM2)
                  | (go_at_call 21; (with_reducible refine (bits_n a3 eb.out).mono ?_); rintro e w4 ⟨rfl, hb4⟩; have B4 := B3.trans (hb4.mono B3.size); have a4 := a3.below hb4; have T4 := T3.below hb4; have x4 := x3.below hb4; clear a3 T3 x3)
                  | (go_at_call 8; (with_reducible refine (root_n a4 T4 sA8 hP1 hPM HH2.out eis2.out).mono ?_); rintro e w5 ⟨vy5, rfl, y5, hb5⟩; have B5 := B4.trans (hb5.mono B4.size); have a5 := a4.below hb5; have T5 := T4.below hb5; have x5 := x4.below hb5; clear a4 T4 x4)
                  | (go_at_call 17; (with_reducible refine (cmp_n (x5.num sH) (y5.num sH) (cmpN_eq _)).mono ?_); rintro e w6 ⟨rfl, hb6⟩; have B6 := B5.trans (hb6.mono B5.size); have a6 := a5.below hb6; have T6 := T5.below hb6; have x6 := x5.below hb6; have y6 := y5.below hb6; clear a5 T5 x5 y5)
                  | fail)
              all_goals
                go_ret
                exact ⟨rfl, by assumption⟩
            · have dKM : decide (M < K) = true := decide_eq_true (by omega)
              go_enter Tryd.func6, Tryd.ntmps6
              go_wp2_with
                (first
                  | (go_at_call 7; (with_reducible refine (alive4_any HT).mono ?_); rintro e w1 ⟨rfl, hb1⟩; have B1 := hb1; have a1 := RA.below hb1; have T1 := HT.below hb1; clear RA HT)
                  | (go_at_call 19; (with_reducible refine (halves_n a1 T1 sA8 hKM HH.out eis.out).mono ?_); rintro e w2 ⟨vx2, rfl, x2, hb2⟩; have B2 := B1.trans (hb2.mono B1.size); have a2 := a1.below hb2; have T2 := T1.below hb2; clear a1 T1)
                  | (go_at_call 20; (with_reducible refine (order_n a2 T2 hA0 sA8 hMM).mono ?_); rintro e w3 ⟨n, rfl, hO, hb3⟩; have B3 := B2.trans (hb3.mono B2.size); have a3 := a2.below hb3; have T3 := T2.below hb3; have x3 := x2.below hb3; clear a2 T2 x2)
                  | (go_at_call 21; (with_reducible refine (bits_n a3 eb.out).mono ?_); rintro e w4 ⟨rfl, hb4⟩; have B4 := B3.trans (hb4.mono B3.size); have a4 := a3.below hb4; have T4 := T3.below hb4; have x4 := x3.below hb4; clear a3 T3 x3)
                  | (go_at_call 8; (with_reducible refine (root_n a4 T4 sA8 hP1 hPM HH2.out eis2.out).mono ?_); rintro e w5 ⟨vy5, rfl, y5, hb5⟩; have B5 := B4.trans (hb5.mono B4.size); have a5 := a4.below hb5; have T5 := T4.below hb5; have x5 := x4.below hb5; clear a4 T4 x4)
                  | (go_at_call 17; (with_reducible refine (cmp_n (x5.num sH) (y5.num sH) (cmpN_eq _)).mono ?_); rintro e w6 ⟨rfl, hb6⟩; have B6 := B5.trans (hb6.mono B5.size); have a6 := a5.below hb6; have T6 := T5.below hb6; have x6 := x5.below hb6; have y6 := y5.below hb6; clear a5 T5 x5 y5)
                  | fail)
              all_goals
                go_ret
                exact ⟨rfl, by assumption⟩
end Go.Proofs.YtnoelffaccekjaaDoor.PRHalf
