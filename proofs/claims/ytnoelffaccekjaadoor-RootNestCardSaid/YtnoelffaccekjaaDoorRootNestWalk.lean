/- RootNest returns true and leaves what was there: the walk. Conditions: math/bits' table stands in its variable. -/
import Derived.Test.YtnoelffaccekjaaDoorLaw4
namespace Go.Proofs.YtnoelffaccekjaaDoor.PRNest
open Go.RowKit Go.Proofs.YtnoelffaccekjaaDoor


theorem cmpN_ge {a b : Nat} (h : b ≤ a) : 0 ≤ cmpN a b := by unfold cmpN; rw [if_neg (by omega)]; split <;> decide
theorem cmpN_le {a b : Nat} (h : a ≤ b) : cmpN a b ≤ 0 := by
  rcases Nat.lt_or_eq_of_le h with h | rfl
  · rw [cmpN_lt h]; decide
  · rw [cmpN_eq]; exact Int.le_refl _

set_option maxRecDepth 100000 in
set_option maxHeartbeats 1000000 in
theorem walk (a0 : Option Addr) (len0 cap0 : Nat) (z0 : List Int) (a1 : Option Addr) (len1 cap1 : Nat) (z1 : List Int) (a2 a3 : Int) (w : World) (w0 : IsRow .u64 w a0 len0 cap0 z0) (w1 : IsRow .u64 w a1 len1 cap1 z1) (w2 : (Lit.int .u8 a2).wf = true) (w3 : (Lit.int .u8 a3).wf = true) (hT : Tab w) :
    Calls Tryd.prog 5 #[.slice a0 len0 cap0, .slice a1 len1 cap1, .int .u8 a2, .int .u8 a3] w fun e w' => e = .returned (.bool true) ∧ Below w.heap.size w w' := by
  obtain ⟨l, hl, dl, RL, hl64⟩ := w0.nums
  obtain ⟨l', hm, dm, RM, hm64⟩ := w1.nums
  have h2 : 0 ≤ a2 ∧ a2 ≤ 255 := by simpa [Lit.wf, IntKind.min, IntKind.max, IntKind.bits, IntKind.signed] using w2
  have h3 : 0 ≤ a3 ∧ a3 ≤ 255 := by simpa [Lit.wf, IntKind.min, IntKind.max, IntKind.bits, IntKind.signed] using w3
  obtain ⟨i, rfl⟩ := Int.eq_ofNat_of_zero_le h2.1
  obtain ⟨k, rfl⟩ := Int.eq_ofNat_of_zero_le h3.1
  clear w0 w1 w2 w3
  by_cases hbig : 8 < len0 ∨ 8 < len1
  · clear RL RM dl dm hl hm
    by_cases hb0 : 8 < len0
    all_goals
      go_enter Tryd.func5, Tryd.ntmps5
      go_wp2_with (go_at_call 7; (with_reducible refine (alive4_any hT).mono ?_); rintro e wa ⟨rfl, hba⟩)
      go_ret
      exact ⟨rfl, hba⟩
  · have dec0 : decide (8 < (len0 : Int)) = false := decide_eq_false (by omega)
    have dec1 : decide (8 < (len1 : Int)) = false := decide_eq_false (by omega)
    have HT := hT
    clear hT
    have bA := val_bits dl (show l.length ≤ 8 by omega)
    have bB := val_bits dm (show l'.length ≤ 8 by omega)
    have RA := RL.numl dl (by omega)
    have RB := RM.numl dm (by omega)
    clear dl dm RL RM hbig
    generalize val BB l = A at *
    generalize val BB l' = B at *
    obtain ⟨p, hp, hp8⟩ : ∃ p : Nat, (i : Int) % 6 = p ∧ p < 6 := ⟨i % 6, by omega, by omega⟩
    obtain ⟨q, hq, hq8⟩ : ∃ q : Nat, (k : Int) % 6 = q ∧ q < 6 := ⟨k % 6, by omega, by omega⟩
    obtain ⟨m, hm', hm1, hm6⟩ : ∃ n : Nat, (1 : Int) + (p : Int) = (n : Int) ∧ 1 ≤ n ∧ n ≤ 6 := ⟨1 + p, by omega, by omega, by omega⟩
    obtain ⟨n, hn', hn1, hn6⟩ : ∃ n : Nat, (1 : Int) + (q : Int) = (n : Int) ∧ 1 ≤ n ∧ n ≤ 6 := ⟨1 + q, by omega, by omega, by omega⟩
    have hr6 : m * n ≤ 36 := Nat.mul_le_mul hm6 hn6
    have hr1 : 1 ≤ m * n := Nat.mul_pos hm1 hn1
    have hr' : (m : Int) * (n : Int) = ((m * n : Nat) : Int) := by rw [Int.natCast_mul]
    obtain ⟨X, hX⟩ := IsRoot.exists hm1 A
    obtain ⟨Y, hY⟩ := IsRoot.exists hn1 X
    obtain ⟨U, hU⟩ := IsRoot.exists hm1 B
    have hZ := hX.nest hY
    have q1 := bitN_mono (hX.le_self hm1)
    have q2 := bitN_mono (hY.le_self hn1)
    have q3 := bitN_mono (hU.le_self hm1)
    have sA8 : bitN A ≤ 8192 := by omega
    have sB8 : bitN B ≤ 8192 := by omega
    have sX8 : bitN X ≤ 8192 := by omega
    have sX : bitN X ≤ 2560000 := by omega
    have sY : bitN Y ≤ 2560000 := by omega
    have sU : bitN U ≤ 2560000 := by omega
    have hmM : m ≤ 9223372036854775807 := by omega
    have hnM : n ≤ 9223372036854775807 := by omega
    have hrM : m * n ≤ 9223372036854775807 := by omega
    have g1 : A ≤ B → X ≤ U := fun h => hX.le hU h
    have g2 : B ≤ A → U ≤ X := fun h => hU.le hX h
    generalize m * n = r at *
    have HX := Lib.hid hX; have HY := Lib.hid hY; have HU := Lib.hid hU; have HZ := Lib.hid hZ
    clear hX hY hU hZ q1 q2 q3 bA bB
    rcases Nat.lt_trichotomy A B with hAB | hAB | hAB
    · have ec := Lib.hid (cmpN_lt hAB)
      obtain ⟨c1, hc1, i1⟩ : ∃ c : Int, cmpN X U = c ∧ c ≤ 0 := ⟨_, rfl, cmpN_le (g1 (by omega))⟩
      have i1' : decide (c1 ≤ 0) = true := decide_eq_true i1
      have e1 := Lib.hid hc1
      clear g1 g2 hc1 i1
      go_enter Tryd.func5, Tryd.ntmps5
      go_wp2_with
      (first
        | (go_at_call 7; (with_reducible refine (alive4_any HT).mono ?_); rintro e w1 ⟨rfl, hb1⟩; have B1 := hb1; have a1 := RA.below hb1; have b1 := RB.below hb1; have T1 := HT.below hb1; clear RA RB HT)
        | (go_at_call 8; (with_reducible refine (root_n (a1) T1 sA8 hm1 hmM HX.out rfl).mono ?_); rintro e w2 ⟨vx2, rfl, x2, hb2⟩; have B2 := B1.trans (hb2.mono B1.size); have a2 := a1.below hb2; have b2 := b1.below hb2; have T2 := T1.below hb2; clear a1 b1 T1)
        | (go_at_call 8; (with_reducible refine (root_n (x2.num sX) T2 sX8 hn1 hnM HY.out rfl).mono ?_); rintro e w3 ⟨vy3, rfl, y3, hb3⟩; have B3 := B2.trans (hb3.mono B2.size); have a3 := a2.below hb3; have b3 := b2.below hb3; have T3 := T2.below hb3; have x3 := x2.below hb3; clear a2 b2 T2 x2)
        | (go_at_call 8; (with_reducible refine (root_n (a3) T3 sA8 hr1 hrM HZ.out rfl).mono ?_); rintro e w4 ⟨vz4, rfl, z4, hb4⟩; have B4 := B3.trans (hb4.mono B3.size); have a4 := a3.below hb4; have b4 := b3.below hb4; have T4 := T3.below hb4; have x4 := x3.below hb4; have y4 := y3.below hb4; clear a3 b3 T3 x3 y3)
        | (go_at_call 17; (with_reducible refine (cmp_n (y4.num sY) (z4.num sY) (cmpN_eq _)).mono ?_); rintro e w5 ⟨rfl, hb5⟩; have B5 := B4.trans (hb5.mono B4.size); have a5 := a4.below hb5; have b5 := b4.below hb5; have T5 := T4.below hb5; have x5 := x4.below hb5; have y5 := y4.below hb5; have z5 := z4.below hb5; clear a4 b4 T4 x4 y4 z4)
        | (go_at_call 8; (with_reducible refine (root_n (b5) T5 sB8 hm1 hmM HU.out rfl).mono ?_); rintro e w6 ⟨vu6, rfl, u6, hb6⟩; have B6 := B5.trans (hb6.mono B5.size); have a6 := a5.below hb6; have b6 := b5.below hb6; have T6 := T5.below hb6; have x6 := x5.below hb6; have y6 := y5.below hb6; have z6 := z5.below hb6; clear a5 b5 T5 x5 y5 z5)
        | (go_at_call 17; (with_reducible refine (cmp_n a6 b6 ec.out).mono ?_); rintro e w7 ⟨rfl, hb7⟩; have B7 := B6.trans (hb7.mono B6.size); have a7 := a6.below hb7; have b7 := b6.below hb7; have T7 := T6.below hb7; have x7 := x6.below hb7; have y7 := y6.below hb7; have z7 := z6.below hb7; have u7 := u6.below hb7; clear a6 b6 T6 x6 y6 z6 u6)
        | (go_at_call 17; (with_reducible refine (cmp_n (x7.num sX) (u7.num sU) e1.out).mono ?_); rintro e w8 ⟨rfl, hb8⟩; have B8 := B7.trans (hb8.mono B7.size); have a8 := a7.below hb8; have b8 := b7.below hb8; have T8 := T7.below hb8; have x8 := x7.below hb8; have y8 := y7.below hb8; have z8 := z7.below hb8; have u8 := u7.below hb8; clear a7 b7 T7 x7 y7 z7 u7)
        | fail)
      all_goals
        go_ret
        exact ⟨rfl, by assumption⟩
    · have ec := Lib.hid (show cmpN A B = 0 by rw [hAB]; exact cmpN_eq _)
      have e1 := Lib.hid (show cmpN X U = 0 by rw [Nat.le_antisymm (g1 (by omega)) (g2 (by omega))]; exact cmpN_eq _)
      clear g1 g2 hAB
      go_enter Tryd.func5, Tryd.ntmps5
      go_wp2_with
      (first
        | (go_at_call 7; (with_reducible refine (alive4_any HT).mono ?_); rintro e w1 ⟨rfl, hb1⟩; have B1 := hb1; have a1 := RA.below hb1; have b1 := RB.below hb1; have T1 := HT.below hb1; clear RA RB HT)
        | (go_at_call 8; (with_reducible refine (root_n (a1) T1 sA8 hm1 hmM HX.out rfl).mono ?_); rintro e w2 ⟨vx2, rfl, x2, hb2⟩; have B2 := B1.trans (hb2.mono B1.size); have a2 := a1.below hb2; have b2 := b1.below hb2; have T2 := T1.below hb2; clear a1 b1 T1)
        | (go_at_call 8; (with_reducible refine (root_n (x2.num sX) T2 sX8 hn1 hnM HY.out rfl).mono ?_); rintro e w3 ⟨vy3, rfl, y3, hb3⟩; have B3 := B2.trans (hb3.mono B2.size); have a3 := a2.below hb3; have b3 := b2.below hb3; have T3 := T2.below hb3; have x3 := x2.below hb3; clear a2 b2 T2 x2)
        | (go_at_call 8; (with_reducible refine (root_n (a3) T3 sA8 hr1 hrM HZ.out rfl).mono ?_); rintro e w4 ⟨vz4, rfl, z4, hb4⟩; have B4 := B3.trans (hb4.mono B3.size); have a4 := a3.below hb4; have b4 := b3.below hb4; have T4 := T3.below hb4; have x4 := x3.below hb4; have y4 := y3.below hb4; clear a3 b3 T3 x3 y3)
        | (go_at_call 17; (with_reducible refine (cmp_n (y4.num sY) (z4.num sY) (cmpN_eq _)).mono ?_); rintro e w5 ⟨rfl, hb5⟩; have B5 := B4.trans (hb5.mono B4.size); have a5 := a4.below hb5; have b5 := b4.below hb5; have T5 := T4.below hb5; have x5 := x4.below hb5; have y5 := y4.below hb5; have z5 := z4.below hb5; clear a4 b4 T4 x4 y4 z4)
        | (go_at_call 8; (with_reducible refine (root_n (b5) T5 sB8 hm1 hmM HU.out rfl).mono ?_); rintro e w6 ⟨vu6, rfl, u6, hb6⟩; have B6 := B5.trans (hb6.mono B5.size); have a6 := a5.below hb6; have b6 := b5.below hb6; have T6 := T5.below hb6; have x6 := x5.below hb6; have y6 := y5.below hb6; have z6 := z5.below hb6; clear a5 b5 T5 x5 y5 z5)
        | (go_at_call 17; (with_reducible refine (cmp_n a6 b6 ec.out).mono ?_); rintro e w7 ⟨rfl, hb7⟩; have B7 := B6.trans (hb7.mono B6.size); have a7 := a6.below hb7; have b7 := b6.below hb7; have T7 := T6.below hb7; have x7 := x6.below hb7; have y7 := y6.below hb7; have z7 := z6.below hb7; have u7 := u6.below hb7; clear a6 b6 T6 x6 y6 z6 u6)
        | (go_at_call 17; (with_reducible refine (cmp_n (x7.num sX) (u7.num sU) e1.out).mono ?_); rintro e w8 ⟨rfl, hb8⟩; have B8 := B7.trans (hb8.mono B7.size); have a8 := a7.below hb8; have b8 := b7.below hb8; have T8 := T7.below hb8; have x8 := x7.below hb8; have y8 := y7.below hb8; have z8 := z7.below hb8; have u8 := u7.below hb8; clear a7 b7 T7 x7 y7 z7 u7)
        | (go_at_call 17; (with_reducible refine (cmp_n (x8.num sX) (u8.num sU) e1.out).mono ?_); rintro e w9 ⟨rfl, hb9⟩; have B9 := B8.trans (hb9.mono B8.size); have a9 := a8.below hb9; have b9 := b8.below hb9; have T9 := T8.below hb9; have x9 := x8.below hb9; have y9 := y8.below hb9; have z9 := z8.below hb9; have u9 := u8.below hb9; clear a8 b8 T8 x8 y8 z8 u8)
        | fail)
      all_goals
        go_ret
        exact ⟨rfl, by assumption⟩
    · have ec := Lib.hid (cmpN_gt hAB)
      obtain ⟨c1, hc1, i1⟩ : ∃ c : Int, cmpN X U = c ∧ 0 ≤ c := ⟨_, rfl, cmpN_ge (g2 (by omega))⟩
      have i1' : decide (0 ≤ c1) = true := decide_eq_true i1
      have e1 := Lib.hid hc1
      clear g1 g2 hc1 i1
      go_enter Tryd.func5, Tryd.ntmps5
      go_wp2_with
      (first
        | (go_at_call 7; (with_reducible refine (alive4_any HT).mono ?_); rintro e w1 ⟨rfl, hb1⟩; have B1 := hb1; have a1 := RA.below hb1; have b1 := RB.below hb1; have T1 := HT.below hb1; clear RA RB HT)
        | (go_at_call 8; (with_reducible refine (root_n (a1) T1 sA8 hm1 hmM HX.out rfl).mono ?_); rintro e w2 ⟨vx2, rfl, x2, hb2⟩; have B2 := B1.trans (hb2.mono B1.size); have a2 := a1.below hb2; have b2 := b1.below hb2; have T2 := T1.below hb2; clear a1 b1 T1)
        | (go_at_call 8; (with_reducible refine (root_n (x2.num sX) T2 sX8 hn1 hnM HY.out rfl).mono ?_); rintro e w3 ⟨vy3, rfl, y3, hb3⟩; have B3 := B2.trans (hb3.mono B2.size); have a3 := a2.below hb3; have b3 := b2.below hb3; have T3 := T2.below hb3; have x3 := x2.below hb3; clear a2 b2 T2 x2)
        | (go_at_call 8; (with_reducible refine (root_n (a3) T3 sA8 hr1 hrM HZ.out rfl).mono ?_); rintro e w4 ⟨vz4, rfl, z4, hb4⟩; have B4 := B3.trans (hb4.mono B3.size); have a4 := a3.below hb4; have b4 := b3.below hb4; have T4 := T3.below hb4; have x4 := x3.below hb4; have y4 := y3.below hb4; clear a3 b3 T3 x3 y3)
        | (go_at_call 17; (with_reducible refine (cmp_n (y4.num sY) (z4.num sY) (cmpN_eq _)).mono ?_); rintro e w5 ⟨rfl, hb5⟩; have B5 := B4.trans (hb5.mono B4.size); have a5 := a4.below hb5; have b5 := b4.below hb5; have T5 := T4.below hb5; have x5 := x4.below hb5; have y5 := y4.below hb5; have z5 := z4.below hb5; clear a4 b4 T4 x4 y4 z4)
        | (go_at_call 8; (with_reducible refine (root_n (b5) T5 sB8 hm1 hmM HU.out rfl).mono ?_); rintro e w6 ⟨vu6, rfl, u6, hb6⟩; have B6 := B5.trans (hb6.mono B5.size); have a6 := a5.below hb6; have b6 := b5.below hb6; have T6 := T5.below hb6; have x6 := x5.below hb6; have y6 := y5.below hb6; have z6 := z5.below hb6; clear a5 b5 T5 x5 y5 z5)
        | (go_at_call 17; (with_reducible refine (cmp_n a6 b6 ec.out).mono ?_); rintro e w7 ⟨rfl, hb7⟩; have B7 := B6.trans (hb7.mono B6.size); have a7 := a6.below hb7; have b7 := b6.below hb7; have T7 := T6.below hb7; have x7 := x6.below hb7; have y7 := y6.below hb7; have z7 := z6.below hb7; have u7 := u6.below hb7; clear a6 b6 T6 x6 y6 z6 u6)
        | (go_at_call 17; (with_reducible refine (cmp_n (x7.num sX) (u7.num sU) e1.out).mono ?_); rintro e w8 ⟨rfl, hb8⟩; have B8 := B7.trans (hb8.mono B7.size); have a8 := a7.below hb8; have b8 := b7.below hb8; have T8 := T7.below hb8; have x8 := x7.below hb8; have y8 := y7.below hb8; have z8 := z7.below hb8; have u8 := u7.below hb8; clear a7 b7 T7 x7 y7 z7 u7)
        | fail)
      all_goals
        go_ret
        exact ⟨rfl, by assumption⟩
end Go.Proofs.YtnoelffaccekjaaDoor.PRNest
