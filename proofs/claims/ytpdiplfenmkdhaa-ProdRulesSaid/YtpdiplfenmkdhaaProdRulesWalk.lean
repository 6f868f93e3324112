/- ProdRules and ProdSquares return true and leave what was there: the walks. Conditions: none beyond what slices of uint64 and uint8s are. -/
import Derived.Test.YtpdiplfenmkdhaaProdPowsWalk
import Derived.Test.YtpdiplfenmkdhaaCmp2
namespace Go.Proofs.Ytpdiplfenmkdhaa.PRules
open Go.RowKit Go.Proofs.Ytpdiplfenmkdhaa

theorem cmp_num {w : World} {v u : Value} {A B : Nat} (h : RdN w v (digs BB A)) (k : RdN w u (digs BB B)) (h1 : (digs BB A).length ≤ 100000) (h2 : (digs BB B).length ≤ 100000) :
    Calls Try.prog 21 #[v, u] w (fun e w' => e = .returned (.int .i64 (cmpN A B)) ∧ Below w.heap.size w w') := by
  have := cmp_any h k (dig_digs BB_two A) (dig_digs BB_two B) h1 h2
  rw [val_digs BB_two, val_digs BB_two] at this
  exact this
theorem cmp_same {w : World} {v u : Value} {A : Nat} (h : RdN w v (digs BB A)) (k : RdN w u (digs BB A)) (h1 : (digs BB A).length ≤ 100000) :
    Calls Try.prog 21 #[v, u] w (fun e w' => e = .returned (.int .i64 0) ∧ Below w.heap.size w w') := by
  have := cmp_num h k h1 h1
  rw [cmpN_eq] at this
  exact this
/-- A number of so many bits has no more limbs than that. -/
theorem limbs {n k : Nat} (h : bitN n ≤ 64 * k) (hk : k ≤ 100000) : (digs BB n).length ≤ 100000 := Nat.le_trans (digs_short h) hk
theorem limbs4 {n k : Nat} (h : bitN n ≤ 64 * k) (hk : k ≤ 40000) : (digs BB n).length ≤ 40000 := Nat.le_trans (digs_short h) hk

set_option maxRecDepth 100000 in
set_option maxHeartbeats 2000000 in
theorem walk (a0 : Option Addr) (len0 cap0 : Nat) (z0 : List Int) (a1 : Option Addr) (len1 cap1 : Nat) (z1 : List Int) (a2 : Option Addr) (len2 cap2 : Nat) (z2 : List Int) (a3 a4 : Int) (w : World) (w0 : IsRow .u64 w a0 len0 cap0 z0) (w1 : IsRow .u64 w a1 len1 cap1 z1) (w2 : IsRow .u64 w a2 len2 cap2 z2) (w3 : (Lit.int .u8 a3).wf = true) (w4 : (Lit.int .u8 a4).wf = true) :
    Calls Try.prog 6 #[.slice a0 len0 cap0, .slice a1 len1 cap1, .slice a2 len2 cap2, .int .u8 a3, .int .u8 a4] w fun e w' => e = .returned (.bool true) ∧ Below w.heap.size w w' := by
  obtain ⟨l, hl, dl, Rl, hl64⟩ := w0.nums
  obtain ⟨m, hm, dm, Rm, hm64⟩ := w1.nums
  obtain ⟨c, hc, dc, Rc, hc64⟩ := w2.nums
  have h3 : 0 ≤ a3 ∧ a3 ≤ 255 := by simpa [Lit.wf, IntKind.min, IntKind.max, IntKind.bits, IntKind.signed] using w3
  have h4 : 0 ≤ a4 ∧ a4 ≤ 255 := by simpa [Lit.wf, IntKind.min, IntKind.max, IntKind.bits, IntKind.signed] using w4
  obtain ⟨i, rfl⟩ := Int.eq_ofNat_of_zero_le h3.1
  obtain ⟨k, rfl⟩ := Int.eq_ofNat_of_zero_le h4.1
  clear w0 w1 w2 w3 w4
  by_cases hbig : 20 < len0 ∨ 20 < len1 ∨ 20 < len2
  · clear Rl Rm Rc dl dm dc hl hm hc
    by_cases hb0 : 20 < len0
    · go_enter Try.func6, Try.ntmps6
      go_wp2_with (go_at_call 7; (with_reducible refine (alive_any _).mono ?_); rintro e wa ⟨rfl, hba⟩)
      go_ret
      exact ⟨rfl, hba⟩
    · by_cases hb1 : 20 < len1
      · go_enter Try.func6, Try.ntmps6
        go_wp2_with (go_at_call 7; (with_reducible refine (alive_any _).mono ?_); rintro e wa ⟨rfl, hba⟩)
        go_ret
        exact ⟨rfl, hba⟩
      · have hb2 : 20 < len2 := by omega
        go_enter Try.func6, Try.ntmps6
        go_wp2_with (go_at_call 7; (with_reducible refine (alive_any _).mono ?_); rintro e wa ⟨rfl, hba⟩)
        go_ret
        exact ⟨rfl, hba⟩
  · have hl0 : len0 ≤ 20 := by omega
    have hl1 : len1 ≤ 20 := by omega
    have hl2 : len2 ≤ 20 := by omega
    have dec0 : decide (20 < (len0 : Int)) = false := decide_eq_false (by omega)
    have dec1 : decide (20 < (len1 : Int)) = false := decide_eq_false (by omega)
    have dec2 : decide (20 < (len2 : Int)) = false := decide_eq_false (by omega)
    have RL := Lib.hid Rl; have RM := Lib.hid Rm; have RC := Lib.hid Rc
    clear Rl Rm Rc hbig
    have bA := PMuls.val_bits dl (show l.length ≤ 20 by omega)
    have bB := PMuls.val_bits dm (show m.length ≤ 20 by omega)
    have bC := PMuls.val_bits dc (show c.length ≤ 20 by omega)
    have bS := PMuls.bitN_add_le (val BB m) (val BB c)
    have H1 := Lib.hid (fun w v u (h : RdN w v l) (k : RdN w u m) => mul_any h k dl dm (by omega) (by omega))
    have H2 := Lib.hid (fun w v u (h : RdN w v m) (k : RdN w u l) => mul_any h k dm dl (by omega) (by omega))
    have H3 := Lib.hid (fun w v u (h : RdN w v m) (k : RdN w u c) => add_any h k dm dc (by omega) (by omega))
    have H4 := Lib.hid (fun w v u (h : RdN w v l) (k : RdN w u (digs BB (val BB m + val BB c))) => mul_any h k dl (dig_digs BB_two _) (by omega) (limbs (k := 100) (by omega) (by decide)))
    have H5 := Lib.hid (fun w v u (h : RdN w v l) (k : RdN w u c) => mul_any h k dl dc (by omega) (by omega))
    have HP := Lib.hid (fun w v (h : RdN w v l) (k : Nat) (hk : k ≤ 1000) => pow_any (k := (k : Int)) h dl (by omega) (by omega) (by omega))
    rw [val_digs BB_two] at H4
    have lenA := digs_bound dl (Nat.le_of_eq hl) rfl
    generalize val BB l = A at *
    generalize val BB m = B at *
    generalize val BB c = C at *
    rw [PMuls.mulR_small (by omega)] at H1 H2 H4 H5
    rw [Nat.mul_comm B A] at H2
    have bAB := bitN_mul_le A B
    have bAC := bitN_mul_le A C
    have bAS := bitN_mul_le A (B + C)
    have lAB : (digs BB (A * B)).length ≤ 100000 := limbs (k := 100) (by omega) (by decide)
    have lAS : (digs BB (A * (B + C))).length ≤ 100000 := limbs (k := 100) (by omega) (by decide)
    have H6 := Lib.hid (fun w v u (h : RdN w v (digs BB (A * B))) (k : RdN w u (digs BB (A * C))) => add_num h k (dig_digs BB_two _) (Nat.le_trans (digs_short (k := 100) (by omega)) (by decide)) (Nat.le_trans (digs_short (k := 100) (by omega)) (by decide)))
    rw [val_digs BB_two, ← Nat.mul_add] at H6
    obtain ⟨p, hp, hp8⟩ : ∃ p : Nat, (i : Int) % 8 = p ∧ p < 8 := ⟨i % 8, by omega, by omega⟩
    obtain ⟨q, hq, hq8⟩ : ∃ q : Nat, (k : Int) % 8 = q ∧ q < 8 := ⟨k % 8, by omega, by omega⟩
    have HBA := fun h : len0 ≤ 4 => digs_bits (n := A) (k := len0) (by
      have := lenA; omega)
    go_enter Try.func6, Try.ntmps6
    go_wp2_with (first
      | (go_at_call 7; (with_reducible refine (alive_any _).mono ?_); rintro e wa ⟨rfl, hba⟩)
      | (go_at_call 15; (with_reducible refine (H1.out _ _ _ (RL.out.below hba) (RM.out.below hba)).mono ?_); rintro e w1 ⟨vx, rfl, rx, hb1⟩; have B1 := hba.trans (hb1.mono hba.size))
      | (go_at_call 15; (with_reducible refine (H2.out _ _ _ (RM.out.below B1) (RL.out.below B1)).mono ?_); rintro e w2 ⟨vy, rfl, ry, hb2⟩; have B2 := B1.trans (hb2.mono B1.size); have rx2 := rx.below hb2)
      | (go_at_call 22; (with_reducible refine (H3.out _ _ _ (RM.out.below B2) (RC.out.below B2)).mono ?_); rintro e w3 ⟨vs, rfl, rs, hb3⟩; have B3 := B2.trans (hb3.mono B2.size); have rx3 := rx2.below hb3; have ry3 := ry.below hb3)
      | (go_at_call 15; (with_reducible refine (H4.out _ _ _ (RL.out.below B3) rs).mono ?_); rintro e w4 ⟨vp, rfl, rp, hb4⟩; have B4 := B3.trans (hb4.mono B3.size); have rx4 := rx3.below hb4; have ry4 := ry3.below hb4)
      | (go_at_call 15; (with_reducible refine (H5.out _ _ _ (RL.out.below B4) (RC.out.below B4)).mono ?_); rintro e w5 ⟨vq, rfl, rq, hb5⟩; have B5 := B4.trans (hb5.mono B4.size); have rx5 := rx4.below hb5; have ry5 := ry4.below hb5; have rp5 := rp.below hb5; clear rx rx2 rx3 rx4 ry ry3 ry4 rs rp)
      | (go_at_call 21; (with_reducible refine (cmp_same rx5 ry5 lAB).mono ?_); rintro e w6 ⟨rfl, hb6⟩; have B6 := B5.trans (hb6.mono B5.size); have rx6 := rx5.below hb6; have rp6 := rp5.below hb6; have rq6 := rq.below hb6)
      | (go_at_call 22; (with_reducible refine (H6.out _ _ _ rx6 rq6).mono ?_); rintro e w7 ⟨vt, rfl, rt, hb7⟩; have B7 := B6.trans (hb7.mono B6.size); have rp7 := rp6.below hb7)
      | (go_at_call 21; (with_reducible refine (cmp_same rp7 rt lAS).mono ?_); rintro e w8 ⟨rfl, hb8⟩; have B8 := B7.trans (hb8.mono B7.size); clear rx5 rx6 ry5 rp5 rp6 rp7 rq rq6 rt)
      | fail)
    · go_ret
      exact ⟨rfl, B8⟩
    · have hb4 : bitN A ≤ 256 := by have := HBA (by omega); omega
      have bw : ∀ j, j ≤ 15 → bitN (A ^ j) ≤ 3841 := fun j hj => by
        have := bitN_pow_le A j
        have h2 := Nat.mul_le_mul hb4 hj
        omega
      have HPW : ∀ (w : World) v (h : RdN w v l) (j : Nat) (hj : j ≤ 15), Calls Try.prog 10 #[v, .int .i64 j] w (OneE w (A ^ j, 0)) := fun w v h j hj => by
        have := HP.out w v h j (by omega)
        rw [PPows.powR_ok (by omega) (by rw [Int.toNat_natCast]; have := bw j hj; omega), Int.toNat_natCast] at this
        exact this
      have HPW := Lib.hid HPW
      have bp := bw p (by omega); have bq := bw q (by omega)
      have HM : ∀ (w : World) v u (h : RdN w v (digs BB (A ^ p))) (k : RdN w u (digs BB (A ^ q))), Calls Try.prog 15 #[v, u] w (OneE w (A ^ (p + q), 0)) := fun w v u h k => by
        have := mul_any h k (dig_digs BB_two _) (dig_digs BB_two _) (limbs (k := 100) (by omega) (by decide)) (limbs (k := 100) (by omega) (by decide))
        rw [val_digs BB_two, val_digs BB_two, PMuls.mulR_small (by omega), ← Nat.pow_add] at this
        exact this
      have HM := Lib.hid HM
      have HPQ := Lib.hid (fun w v (h : RdN w v l) => HPW.out w v h (p + q) (by omega))
      rw [Int.natCast_add] at HPQ
      have lW : (digs BB (A ^ (p + q))).length ≤ 100000 := limbs (k := 100) (by have := bw (p + q) (by omega); omega) (by decide)
      have BW := Lib.hid bw
      clear bw
      go_wp2_with (first
        | (go_at_call 10; (with_reducible refine (HPW.out _ _ (RL.out.below B8) p (by omega)).mono ?_); rintro e w9 ⟨vu, rfl, ru, hb9⟩; have B9 := B8.trans (hb9.mono B8.size))
        | (go_at_call 10; (with_reducible refine (HPW.out _ _ (RL.out.below B9) q (by omega)).mono ?_); rintro e w10 ⟨vv, rfl, rv, hb10⟩; have B10 := B9.trans (hb10.mono B9.size); have ru10 := ru.below hb10)
        | (go_at_call 10; (with_reducible refine (HPQ.out _ _ (RL.out.below B10)).mono ?_); rintro e w11 ⟨vw, rfl, rw11, hb11⟩; have B11 := B10.trans (hb11.mono B10.size); have ru11 := ru10.below hb11; have rv11 := rv.below hb11)
        | (go_at_call 15; (with_reducible refine (HM.out _ _ _ ru11 rv11).mono ?_); rintro e w12 ⟨vz, rfl, rz, hb12⟩; have B12 := B11.trans (hb12.mono B11.size); have rw12 := rw11.below hb12)
        | (go_at_call 21; (with_reducible refine (cmp_same rw12 rz lW).mono ?_); rintro e w13 ⟨rfl, hb13⟩; have B13 := B12.trans (hb13.mono B12.size))
        | fail)
      go_ret
      exact ⟨rfl, B13⟩
end Go.Proofs.Ytpdiplfenmkdhaa.PRules
