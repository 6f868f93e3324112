/- ProdMuls returns true and leaves what was there: the walk. Conditions: none beyond what slices of uint64 and a uint64 are. -/
import Derived.Test.YtpdiplfenmkdhaaLaw0
namespace Go.Proofs.Ytpdiplfenmkdhaa.PMuls
open Go.RowKit Go.Proofs.Ytpdiplfenmkdhaa

theorem mulR_small {A B : Nat} (h : bitN A + bitN B ≤ 65536) : mulR A B = (A * B, 0) := by
  unfold mulR
  by_cases h0 : A = 0 ∨ B = 0
  · rw [if_pos h0]
    rcases h0 with rfl | rfl <;> simp
  · rw [if_neg h0, if_neg (by omega)]

theorem bitN_add_le (a b : Nat) : bitN (a + b) ≤ bitN a + bitN b + 1 := by
  rw [bitN_le, Nat.pow_succ, Nat.pow_add]
  have h1 := bitN_lt a
  have h2 := bitN_lt b
  have h3 : 2 ^ bitN a ≤ 2 ^ bitN a * 2 ^ bitN b := Nat.le_mul_of_pos_right _ (Nat.pow_pos (by omega))
  have h4 : 2 ^ bitN b ≤ 2 ^ bitN a * 2 ^ bitN b := Nat.le_mul_of_pos_left _ (Nat.pow_pos (by omega))
  omega

theorem same_true {w : World} {v u : Value} {n : Nat} (h : RdN w v (digs BB n)) (k : RdD w u (digs DD n)) (hn : (digs DD n).length ≤ 1000000) :
    Calls Try.prog 12 #[v, u] w (fun e w' => e = .returned (.bool true) ∧ Below w.heap.size w w') := by
  have := same2_any h k hn
  rw [decide_eq_true rfl] at this
  exact this

theorem val_bits {l : List Nat} {k : Nat} (hd : Dig BB l) (h : l.length ≤ k) : bitN (val BB l) ≤ 64 * k := digs_bits (digs_bound hd h rfl)

set_option maxRecDepth 100000 in
set_option maxHeartbeats 1000000 in
theorem walk (a0 : Option Addr) (len0 cap0 : Nat) (z0 : List Int) (a1 : Option Addr) (len1 cap1 : Nat) (z1 : List Int) (a2 : Int) (w : World) (w0 : IsRow .u64 w a0 len0 cap0 z0) (w1 : IsRow .u64 w a1 len1 cap1 z1) (w2 : (Lit.int .u64 a2).wf = true) :
    Calls Try.prog 4 #[.slice a0 len0 cap0, .slice a1 len1 cap1, .int .u64 a2] w fun e w' => e = .returned (.bool true) ∧ Below w.heap.size w w' := by
  obtain ⟨l, hl, dl, Rl, hl64⟩ := w0.nums
  obtain ⟨m, hm, dm, Rm, hm64⟩ := w1.nums
  have h0 : 0 ≤ a2 ∧ a2 < 18446744073709551616 := by
    have := (by simpa [Lit.wf, IntKind.min, IntKind.max, IntKind.bits, IntKind.signed] using w2 : 0 ≤ a2 ∧ a2 ≤ 18446744073709551615)
    omega
  obtain ⟨n, rfl⟩ := Int.eq_ofNat_of_zero_le h0.1
  have hn : n < BB := by unfold BB; omega
  clear w0 w1 w2 h0
  by_cases hbig : 40 < len0 ∨ 40 < len1
  · clear Rl Rm dl dm hl hm
    by_cases hb0 : 40 < len0
    · go_enter Try.func4, Try.ntmps4
      go_wp2_with (go_at_call 7; (with_reducible refine (alive_any _).mono ?_); rintro e wa ⟨rfl, hba⟩)
      go_ret
      exact ⟨rfl, hba⟩
    · go_enter Try.func4, Try.ntmps4
      go_wp2_with (go_at_call 7; (with_reducible refine (alive_any _).mono ?_); rintro e wa ⟨rfl, hba⟩)
      go_ret
      exact ⟨rfl, hba⟩
  · have hl0 : len0 ≤ 40 := by omega
    have hl1 : len1 ≤ 40 := by omega
    have dec0 : decide (40 < (len0 : Int)) = false := decide_eq_false (by omega)
    have dec1 : decide (40 < (len1 : Int)) = false := decide_eq_false (by omega)
    have RL := Lib.hid Rl; have RM := Lib.hid Rm
    clear Rl Rm
    have bA := val_bits dl (show l.length ≤ 40 by omega)
    have bB := val_bits dm (show m.length ≤ 40 by omega)
    have bn : bitN n ≤ 64 := bitN_le.2 (by rw [← BB_pow]; exact hn)
    have HM := Lib.hid (fun w v u (h : RdN w v l) (k : RdN w u m) => mul_any h k dl dm (by omega) (by omega))
    have HT := Lib.hid (fun w v (h : RdN w v l) => times_any (n := n) h dl (by omega) hn)
    rw [mulR_small (by omega)] at HM HT
    have hA2 := bitN_mul_le (val BB l) (val BB m)
    have hA3 := bitN_mul_le (val BB l) n
    have lA : (digs DD (val BB l)).length ≤ 400000 := Nat.le_trans (digs_len_bits bA) (by decide)
    have lB : (digs DD (val BB m)).length ≤ 400000 := Nat.le_trans (digs_len_bits bB) (by decide)
    have lN : (digs DD n).length ≤ 400000 := Nat.le_trans (digs_len_bits bn) (by decide)
    have lAB : (digs DD (val BB l * val BB m)).length ≤ 1000000 := Nat.le_trans (digs_len_bits (Nat.le_refl _)) (by omega)
    have lAN : (digs DD (val BB l * n)).length ≤ 1000000 := Nat.le_trans (digs_len_bits (Nat.le_refl _)) (by omega)
    have lA' : (digs DD (val BB l)).length ≤ 1000000 := by omega
    have lB' : (digs DD (val BB m)).length ≤ 1000000 := by omega
    have hS1 := bitN_add_le (val BB l) (val BB m)
    have hS2 := bitN_add_le (val BB l + val BB m) (val BB l)
    have lS : (digs DD (val BB l + val BB m)).length ≤ 1000000 := Nat.le_trans (digs_len_bits (Nat.le_refl _)) (by omega)
    have lSA : (digs DD (val BB l + val BB m + val BB l)).length ≤ 1000000 := Nat.le_trans (digs_len_bits (Nat.le_refl _)) (by omega)
    have HSum := Lib.hid (fun w v (h : RdNs w v [.slice a0 len0 cap0, .slice a1 len1 cap1, .slice a0 len0 cap0] [l, m, l]) => sum_any h (by
      intro k hk
      simp only [List.mem_cons, List.not_mem_nil, or_false] at hk
      rcases hk with rfl | rfl | rfl
      · exact ⟨dl, by omega⟩
      · exact ⟨dm, by omega⟩
      · exact ⟨dl, by omega⟩) (by simp))
    have eS : sumAll [l, m, l] = val BB l + val BB m + val BB l := by simp [sumAll]; omega
    rw [eS] at HSum
    have HAll : Hid (∀ w1, RdN w1 (.slice a0 len0 cap0) l → RdN w1 (.slice a1 len1 cap1) m → ∀ j, j < 3 → ∀ k, [l, m, l][j]? = some k → RdN w1 ([Value.slice a0 len0 cap0, .slice a1 len1 cap1, .slice a0 len0 cap0][j]?.getD undef) k) := Lib.hid (by
      intro w1 h1 h2 j hj k hk
      rcases (by omega : j = 0 ∨ j = 1 ∨ j = 2) with rfl | rfl | rfl
      · simp at hk; subst hk; exact h1
      · simp at hk; subst hk; exact h2
      · simp at hk; subst hk; exact h1)
    clear eS hA2 hA3 hS1 hS2
    have HX := Lib.hid (fun w v (h : RdN w v l) => to_any h dl (by omega))
    have HY := Lib.hid (fun w v (h : RdN w v m) => to_any h dm (by omega))
    go_enter Try.func4, Try.ntmps4
    go_wp2_with (first
      | (go_at_call 7; (with_reducible refine (alive_any _).mono ?_); rintro e wa ⟨rfl, hba⟩)
      | (go_at_call 8; (with_reducible refine (HX.out _ _ (RL.out.below hba)).mono ?_); rintro e wx ⟨vx, rfl, rx, hbx⟩; have Bx := hba.trans (hbx.mono hba.size))
      | (go_at_call 8; (with_reducible refine (HY.out _ _ (RM.out.below Bx)).mono ?_); rintro e wy ⟨vy, rfl, ry, hby⟩; have By := Bx.trans (hby.mono Bx.size); have rx1 := rx.below hby)
      | (go_at_call 15; (with_reducible refine (HM.out _ _ _ (RL.out.below By) (RM.out.below By)).mono ?_); rintro e wm ⟨vm, rfl, rm, hbm⟩; have Bm := By.trans (hbm.mono By.size); have rx2 := rx1.below hbm; have ry2 := ry.below hbm)
      | (go_at_call 16; (with_reducible refine (HT.out _ _ (RL.out.below Bm)).mono ?_); rintro e wt ⟨vt, rfl, rt, hbt⟩; have Bt := Bm.trans (hbt.mono Bm.size); have rx3 := rx2.below hbt; have ry3 := ry2.below hbt; have rm3 := rm.below hbt)
      | (go_at_call 17; (with_reducible refine (rmul_num rx3 ry3 lA lB).mono ?_); rintro e w1 ⟨v1, rfl, r1, hb1⟩; have B1 := Bt.trans (hb1.mono Bt.size); have rx4 := rx3.below hb1; have ry4 := ry3.below hb1; have rm4 := rm3.below hb1; have rt4 := rt.below hb1)
      | (go_at_call 12; (with_reducible refine (same_true rm4 r1 lAB).mono ?_); rintro e w2 ⟨rfl, hb2⟩; have B2 := B1.trans (hb2.mono B1.size); have rx5 := rx4.below hb2; have ry5 := ry4.below hb2; have rt5 := rt4.below hb2)
      | (go_at_call 18; (with_reducible refine (num_any hn).mono ?_); rintro e w3 ⟨v3, rfl, r3, hb3⟩; have B3 := B2.trans (hb3.mono B2.size); have rx6 := rx5.below hb3; have ry6 := ry5.below hb3; have rt6 := rt5.below hb3)
      | (go_at_call 17; (with_reducible refine (rmul_num rx6 r3 lA lN).mono ?_); rintro e w4 ⟨v4, rfl, r4, hb4⟩; have B4 := B3.trans (hb4.mono B3.size); have rx7 := rx6.below hb4; have ry7 := ry6.below hb4; have rt7 := rt6.below hb4)
      | (go_at_call 12; (with_reducible refine (same_true rt7 r4 lAN).mono ?_); rintro e w5 ⟨rfl, hb5⟩; have B5 := B4.trans (hb5.mono B4.size); have rx8 := rx7.below hb5; have ry8 := ry7.below hb5; clear rx rx1 rx2 rx3 rx4 rx5 rx6 rx7 ry ry2 ry3 ry4 ry5 ry6 ry7 rm rm3 rm4 rt rt4 rt5 rt6 rt7)
      | (go_at_call 19; (with_reducible refine (HSum.out _ _ ?_).mono ?_); (refine ⟨rd_arr (heap_alloc_new _ _) trivial rfl (by decide), rfl, HAll.out _ (RL.out.below (B5.alloc B5.size _)) (RM.out.below (B5.alloc B5.size _))⟩); rintro e w6 ⟨v6, rfl, r6, hb6⟩; have B6 := B5.trans ((below_a hb6).mono B5.size); have rx9 := rx8.below (below_a hb6); have ry9 := ry8.below (below_a hb6))
      | (go_at_call 20; (with_reducible refine (radd_any rx9 ry9 lA' lB').mono ?_); rintro e w7 ⟨v7, rfl, r7, hb7⟩; have B7 := B6.trans (hb7.mono B6.size); have rx10 := rx9.below hb7; have r6' := r6.below hb7)
      | (go_at_call 20; (with_reducible refine (radd_any r7 rx10 lS lA').mono ?_); rintro e w8 ⟨v8, rfl, r8, hb8⟩; have B8 := B7.trans (hb8.mono B7.size); have r6'' := r6'.below hb8)
      | (go_at_call 12; (with_reducible refine (same_true r6'' r8 lSA).mono ?_); rintro e w9 ⟨rfl, hb9⟩; have B9 := B8.trans (hb9.mono B8.size))
      | fail)
    go_ret
    exact ⟨rfl, B9⟩
end Go.Proofs.Ytpdiplfenmkdhaa.PMuls
