/- ProdPows returns true and leaves what was there: the walk. Conditions: none beyond what a slice of uint64 and an int are. -/
import Derived.Test.YtpdiplfenmkdhaaProdMulsWalk
namespace Go.Proofs.Ytpdiplfenmkdhaa.PPows
open Go.RowKit Go.Proofs.Ytpdiplfenmkdhaa

theorem powR_ok {A : Nat} {k : Int} (h0 : 0 ≤ k) (h : bitN (A ^ k.toNat) ≤ 65536) : powR A k = (A ^ k.toNat, 0) := by
  unfold powR; rw [if_neg (by omega), if_neg (by omega)]
theorem powR_long {A : Nat} {k : Int} (h0 : 0 ≤ k) (h : 65536 < bitN (A ^ k.toNat)) : powR A k = (0, 2) := by
  unfold powR; rw [if_neg (by omega), if_pos h]
theorem powR_neg {A : Nat} {k : Int} (h0 : k < 0) : powR A k = (0, 1) := by unfold powR; rw [if_pos h0]

theorem OneE.nil {w w' : World} {e : Ending} {q : Int} (h : OneE w (0, q) e w') : ∃ a c, e = .returned (.tuple #[.slice a 0 c, .int .i64 q]) ∧ Below w.heap.size w w' := by
  obtain ⟨v, rfl, hr, hb⟩ := h
  rw [digs_zero] at hr
  obtain ⟨a, c, rfl, -⟩ := hr.view
  exact ⟨a, c, rfl, hb⟩

set_option maxRecDepth 100000 in
set_option maxHeartbeats 2000000 in
theorem walk (a0 : Option Addr) (len0 cap0 : Nat) (z0 : List Int) (a1 : Int) (w : World) (w0 : IsRow .u64 w a0 len0 cap0 z0) (w1 : (Lit.int .i64 a1).wf = true) :
    Calls Try.prog 3 #[.slice a0 len0 cap0, .int .i64 a1] w fun e w' => e = .returned (.bool true) ∧ Below w.heap.size w w' := by
  obtain ⟨l, hl, dl, Rl, hl64⟩ := w0.nums
  have h0 : -9223372036854775808 ≤ a1 ∧ a1 ≤ 9223372036854775807 := by
    simpa [Lit.wf, IntKind.min, IntKind.max, IntKind.bits, IntKind.signed] using w1
  obtain ⟨hk0, hk1⟩ := h0
  clear w0 w1
  by_cases hbig : 12 < len0
  · clear Rl dl hl
    go_enter Try.func3, Try.ntmps3
    go_wp2_with (go_at_call 7; (with_reducible refine (alive_any _).mono ?_); rintro e wa ⟨rfl, hba⟩)
    go_ret
    exact ⟨rfl, hba⟩
  · have hl0 : len0 ≤ 12 := by omega
    have dec0 : decide (12 < (len0 : Int)) = false := decide_eq_false (by omega)
    have RL := Lib.hid Rl
    clear Rl
    have bA := PMuls.val_bits dl (show l.length ≤ 12 by omega)
    have HX := Lib.hid (fun w v (h : RdN w v l) => to_any h dl (by omega))
    have HP := Lib.hid (fun w v (h : RdN w v l) => pow_any (k := a1) h dl (by omega) (by omega) (by omega))
    generalize val BB l = A at *
    have HB := Lib.hid (fun w v (h : RdD w v (digs DD A)) => refbits_any h (Nat.le_trans (digs_len_bits bA) (by decide)))
    clear dl hl hbig
    by_cases hneg : a1 < 0
    · rw [powR_neg hneg] at HP
      go_enter Try.func3, Try.ntmps3
      go_wp2_with (first
        | (go_at_call 7; (with_reducible refine (alive_any _).mono ?_); rintro e wa ⟨rfl, hba⟩)
        | (go_at_call 8; (with_reducible refine (HX.out _ _ (RL.out.below hba)).mono ?_); rintro e wx ⟨vx, rfl, rx, hbx⟩; have Bx := hba.trans (hbx.mono hba.size))
        | (go_at_call 9; (with_reducible refine (HB.out _ _ rx).mono ?_); rintro e wy ⟨rfl, rfl⟩)
        | (go_at_call 10; (with_reducible refine (HP.out _ _ (RL.out.below Bx)).mono ?_); intro e wm hm; obtain ⟨a, c, rfl, hbm⟩ := OneE.nil hm))
      go_ret
      exact ⟨rfl, Bx.trans (hbm.mono Bx.size)⟩
    · by_cases hz : a1 = 0
      · subst hz
        have H4 := Lib.hid (fun w v u (h : RdN w v (digs BB 1)) (k : RdN w u [1]) => same_any h k)
        rw [digs_small (by decide) (by decide), decide_eq_true rfl] at H4
        rw [powR_ok (by omega) (by rw [show (0 : Int).toNat = 0 from rfl, Nat.pow_zero]; decide), show (0 : Int).toNat = 0 from rfl, Nat.pow_zero] at HP
        go_enter Try.func3, Try.ntmps3
        go_wp2_with (first
          | (go_at_call 7; (with_reducible refine (alive_any _).mono ?_); rintro e wa ⟨rfl, hba⟩)
          | (go_at_call 8; (with_reducible refine (HX.out _ _ (RL.out.below hba)).mono ?_); rintro e wx ⟨vx, rfl, rx, hbx⟩; have Bx := hba.trans (hbx.mono hba.size))
          | (go_at_call 9; (with_reducible refine (HB.out _ _ rx).mono ?_); rintro e wy ⟨rfl, rfl⟩)
          | (go_at_call 10; (with_reducible refine (HP.out _ _ (RL.out.below Bx)).mono ?_); rintro e wm ⟨vm, rfl, rm, hbm⟩; have Bm := Bx.trans (hbm.mono Bx.size))
          | (go_at_call 11; (with_reducible refine (H4.out _ _ _ (rm.below (below_alloc _ _)) ?_).mono ?_); (exact rd_one (heap_alloc_new _ _) trivial); rintro e w4 ⟨rfl, hb4⟩))
        go_ret
        exact ⟨rfl, Bm.trans ((below_a hb4).mono Bm.size)⟩
      · obtain ⟨K, rfl⟩ := Int.eq_ofNat_of_zero_le (show 0 ≤ a1 by omega)
        have hK : 0 < K := by omega
        clear hneg hz
        have lD := Nat.le_trans (digs_len_bits (n := A) bA) (show 64 * 12 ≤ 1000000 by decide)
        by_cases hb2 : bitN A < 2
        · have hA2 : A < 2 := by
            have := bitN_le.1 (show bitN A ≤ 1 by omega)
            simpa using this
          have e : A ^ K = A := by
            obtain rfl | rfl : A = 0 ∨ A = 1 := by omega
            · rw [Nat.zero_pow hK]
            · rw [Nat.one_pow]
          rw [powR_ok (by omega) (by rw [Int.toNat_natCast, e]; omega), Int.toNat_natCast, e] at HP
          clear e hA2
          go_enter Try.func3, Try.ntmps3
          go_wp2_with (first
            | (go_at_call 7; (with_reducible refine (alive_any _).mono ?_); rintro e wa ⟨rfl, hba⟩)
            | (go_at_call 8; (with_reducible refine (HX.out _ _ (RL.out.below hba)).mono ?_); rintro e wx ⟨vx, rfl, rx, hbx⟩; have Bx := hba.trans (hbx.mono hba.size))
            | (go_at_call 9; (with_reducible refine (HB.out _ _ rx).mono ?_); rintro e wy ⟨rfl, rfl⟩)
            | (go_at_call 10; (with_reducible refine (HP.out _ _ (RL.out.below Bx)).mono ?_); rintro e wm ⟨vm, rfl, rm, hbm⟩; have Bm := Bx.trans (hbm.mono Bx.size); have rx2 := rx.below hbm)
            | (go_at_call 12; (with_reducible refine (PMuls.same_true rm rx2 lD).mono ?_); rintro e w2 ⟨rfl, hb2⟩))
          go_ret
          exact ⟨rfl, Bm.trans (hb2.mono Bm.size)⟩
        · have hA0 : A ≠ 0 := fun h => by rw [h, bitN_zero] at hb2; omega
          obtain ⟨b, hb⟩ : ∃ b, bitN A = b := ⟨_, rfl⟩
          have up := bitN_pow_le' (a := A) hK
          have dn := bitN_pow_ge hA0 K
          rw [hb] at up dn
          obtain ⟨n, hn⟩ : ∃ n, bitN (A ^ K) = n := ⟨_, rfl⟩
          rw [hn] at up dn
          rw [hb] at bA hb2 HB
          have hbK : (b : Int) - 1 = ((b - 1 : Nat) : Int) := by omega
          by_cases hlong : 65535 / ((b : Int) - 1) < (K : Int)
          · have d1 := decide_eq_true hlong
            have h2 : 65535 < (K : Int) * ((b : Int) - 1) := (Int.ediv_lt_iff_lt_mul (by omega)).1 hlong
            have h3 : 65535 < (b - 1) * K := by
              rw [hbK, ← Int.natCast_mul, Nat.mul_comm] at h2
              omega
            rw [powR_long (by omega) (by rw [Int.toNat_natCast, hn]; omega)] at HP
            clear up dn h2 h3 hn hbK
            go_enter Try.func3, Try.ntmps3
            go_wp2_with (first
              | (go_at_call 7; (with_reducible refine (alive_any _).mono ?_); rintro e wa ⟨rfl, hba⟩)
              | (go_at_call 8; (with_reducible refine (HX.out _ _ (RL.out.below hba)).mono ?_); rintro e wx ⟨vx, rfl, rx, hbx⟩; have Bx := hba.trans (hbx.mono hba.size))
              | (go_at_call 9; (with_reducible refine (HB.out _ _ rx).mono ?_); rintro e wy ⟨rfl, rfl⟩)
              | (go_at_call 10; (with_reducible refine (HP.out _ _ (RL.out.below Bx)).mono ?_); intro e wm hm; obtain ⟨a, c, rfl, hbm⟩ := OneE.nil hm))
            go_ret
            exact ⟨rfl, Bx.trans (hbm.mono Bx.size)⟩
          · have d1 := decide_eq_false hlong
            have h2 : (K : Int) * ((b : Int) - 1) ≤ 65535 := (Int.le_ediv_iff_mul_le (by omega)).1 (by omega)
            have h3 : (b - 1) * K ≤ 65535 := by
              rw [hbK, ← Int.natCast_mul, Nat.mul_comm] at h2
              omega
            have hKs : K ≤ 65535 := Nat.le_trans (Nat.le_mul_of_pos_left K (by omega)) h3
            obtain ⟨p, hp⟩ : ∃ p, b * K = p := ⟨_, rfl⟩
            have hp' : (b : Int) * (K : Int) = (p : Int) := by rw [← hp, Int.natCast_mul]
            obtain ⟨q, hq⟩ : ∃ q, (b - 1) * K = q := ⟨_, rfl⟩
            have hq' : ((b : Int) - 1) * (K : Int) = (q : Int) := by rw [hbK, ← hq, Int.natCast_mul]
            have hpq : p = q + K := by rw [← hp, ← hq, Nat.sub_mul, Nat.one_mul]; have := Nat.le_mul_of_pos_left K (show 0 < b by omega); omega
            rw [hp] at up; rw [hq] at dn h3
            clear h2 hbK
            by_cases hask : 3000 / (b : Int) < (K : Int)
            · have d2 := decide_eq_true hask
              by_cases herr : 65536 < n
              · rw [powR_long (by omega) (by rw [Int.toNat_natCast, hn]; omega)] at HP
                go_enter Try.func3, Try.ntmps3
                go_wp2_with (first
                  | (go_at_call 7; (with_reducible refine (alive_any _).mono ?_); rintro e wa ⟨rfl, hba⟩)
                  | (go_at_call 8; (with_reducible refine (HX.out _ _ (RL.out.below hba)).mono ?_); rintro e wx ⟨vx, rfl, rx, hbx⟩; have Bx := hba.trans (hbx.mono hba.size))
                  | (go_at_call 9; (with_reducible refine (HB.out _ _ rx).mono ?_); rintro e wy ⟨rfl, rfl⟩)
                  | (go_at_call 10; (with_reducible refine (HP.out _ _ (RL.out.below Bx)).mono ?_); intro e wm hm; obtain ⟨a, c, rfl, hbm⟩ := OneE.nil hm))
                go_ret
                exact ⟨congrArg (fun b => Ending.returned (.bool b)) (show decide ((65536 : Int) < (q : Int) + (K : Int)) = true from decide_eq_true (by omega)), Bx.trans (hbm.mono Bx.size)⟩
              · rw [powR_ok (by omega) (by rw [Int.toNat_natCast, hn]; omega), Int.toNat_natCast] at HP
                have HBN := Lib.hid (fun w v (h : RdN w v (digs BB (A ^ K))) => bits_num h (dig_digs BB_two _) (Nat.le_trans (digs_short (k := 1024) (by rw [hn]; omega)) (by decide)))
                rw [val_digs BB_two, hn] at HBN
                go_enter Try.func3, Try.ntmps3
                go_wp2_with (first
                  | (go_at_call 7; (with_reducible refine (alive_any _).mono ?_); rintro e wa ⟨rfl, hba⟩)
                  | (go_at_call 8; (with_reducible refine (HX.out _ _ (RL.out.below hba)).mono ?_); rintro e wx ⟨vx, rfl, rx, hbx⟩; have Bx := hba.trans (hbx.mono hba.size))
                  | (go_at_call 9; (with_reducible refine (HB.out _ _ rx).mono ?_); rintro e wy ⟨rfl, rfl⟩)
                  | (go_at_call 10; (with_reducible refine (HP.out _ _ (RL.out.below Bx)).mono ?_); rintro e wm ⟨vm, rfl, rm, hbm⟩; have Bm := Bx.trans (hbm.mono Bx.size))
                  | (go_at_call 13; (with_reducible refine (HBN.out _ _ rm).mono ?_); rintro e w4 ⟨rfl, hb4⟩))
                go_ret
                exact ⟨rfl, Bm.trans (hb4.mono Bm.size)⟩
            · have d2 := decide_eq_false hask
              have h4 : (K : Int) * (b : Int) ≤ 3000 := (Int.le_ediv_iff_mul_le (by omega)).1 (by omega)
              have h5 : p ≤ 3000 := by rw [← hp, Nat.mul_comm]; rw [← Int.natCast_mul] at h4; omega
              rw [powR_ok (by omega) (by rw [Int.toNat_natCast, hn]; omega), Int.toNat_natCast] at HP
              have HR := Lib.hid (fun w v (h : RdD w v (digs DD A)) => rpow_any (K := K) h (by rw [hb, hp]; omega) (by omega) (by omega))
              have lD2 : (digs DD (A ^ K)).length ≤ 1000000 := Nat.le_trans (digs_len_bits (k := 3000) (by omega)) (by decide)
              clear hp hp' hq hq' h4 up dn
              go_enter Try.func3, Try.ntmps3
              go_wp2_with (first
                | (go_at_call 7; (with_reducible refine (alive_any _).mono ?_); rintro e wa ⟨rfl, hba⟩)
                | (go_at_call 8; (with_reducible refine (HX.out _ _ (RL.out.below hba)).mono ?_); rintro e wx ⟨vx, rfl, rx, hbx⟩; have Bx := hba.trans (hbx.mono hba.size))
                | (go_at_call 9; (with_reducible refine (HB.out _ _ rx).mono ?_); rintro e wy ⟨rfl, rfl⟩)
                | (go_at_call 10; (with_reducible refine (HP.out _ _ (RL.out.below Bx)).mono ?_); rintro e wm ⟨vm, rfl, rm, hbm⟩; have Bm := Bx.trans (hbm.mono Bx.size); have rx2 := rx.below hbm)
                | (go_at_call 14; (with_reducible refine (HR.out _ _ rx2).mono ?_); rintro e w4 ⟨v4, rfl, r4, hb4⟩; have B4 := Bm.trans (hb4.mono Bm.size); have rm2 := rm.below hb4)
                | (go_at_call 12; (with_reducible refine (PMuls.same_true rm2 r4 lD2).mono ?_); rintro e w5 ⟨rfl, hb5⟩))
              go_ret
              exact ⟨rfl, B4.trans (hb5.mono B4.size)⟩
end Go.Proofs.Ytpdiplfenmkdhaa.PPows
