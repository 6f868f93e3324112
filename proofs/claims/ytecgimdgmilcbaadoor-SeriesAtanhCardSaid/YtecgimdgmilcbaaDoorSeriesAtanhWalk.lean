/- SeriesAtanh returns true and leaves what was there: the walk. Conditions: math/bits' table stands in its variable. -/
import Derived.Test.YtecgimdgmilcbaaDoorSer7
import Derived.Test.YtecgimdgmilcbaaDoorAtHolds
namespace Go.Proofs.YtecgimdgmilcbaaDoor.SAtanh
set_option maxRecDepth 100000
open Go.RowKit Go.Proofs.YtecgimdgmilcbaaDoor
set_option linter.unusedVariables false

theorem tells {w : World} {v u : Value} {A B s : Nat} (h : Num w v A) (k : Num w u B) (hT : Tab w) (s1 : 8 ≤ s) (s2 : s ≤ 9000) (sA : bitN A ≤ 4096) (sB : bitN B ≤ 4096) (hB : 0 < B) (h3 : 3 * A ≤ B) :
    Calls Tryd.prog 8 #[v, u, .int .i64 (s : Int)] w fun e w' => ∃ vl vh L H, e = .returned (.tuple #[vl, vh, .int .i64 0]) ∧ RdN w' vl (digs BB L) ∧ RdN w' vh (digs BB H) ∧ AtOk A B s L H ∧ Below w.heap.size w w' := by
  by_cases hA : A = 0
  · subst hA
    refine (Atanh_zero h k s1 s2 sB hB).mono ?_
    rintro e w' ⟨rfl, hb⟩
    exact ⟨_, _, 0, 0, rfl, RdN.nil0 _, RdN.nil0 _, atOk_zero (by omega), hb⟩
  · exact Atanh_ok h k hT s1 s2 sA sB hA hB h3


set_option maxRecDepth 100000 in
set_option maxHeartbeats 4000000 in
theorem walk (a0 : Option Addr) (len0 cap0 : Nat) (z0 : List Int) (a1 : Option Addr) (len1 cap1 : Nat) (z1 : List Int) (a2 : Int) (w : World) (w0 : IsRow .u64 w a0 len0 cap0 z0) (w1 : IsRow .u64 w a1 len1 cap1 z1) (w2 : (Lit.int .i64 a2).wf = true) (hT : Tab w) :
    Calls Tryd.prog 3 #[.slice a0 len0 cap0, .slice a1 len1 cap1, .int .i64 a2] w fun e w' => e = .returned (.bool true) ∧ Below w.heap.size w w' := by
  obtain ⟨l, hl, dl, RL, hl64⟩ := w0.nums
  obtain ⟨m, hm, dm, RM, hm64⟩ := w1.nums
  have h1 : -9223372036854775808 ≤ a2 ∧ a2 ≤ 9223372036854775807 := by simpa [Lit.wf, IntKind.min, IntKind.max, IntKind.bits, IntKind.signed] using w2
  clear w0 w1 w2
  have d60 : len0 ≤ 6 → decide (6 < (len0 : Int)) = false := fun h => decide_eq_false (by omega)
  by_cases hb0 : 70 < len0
  · have e0 : decide (70 < (len0 : Int)) = true := decide_eq_true (by omega)
    clear RL RM dl dm hl hm d60
    go_enter Tryd.func3, Tryd.ntmps3
    go_wp2_with (go_at_call 7; (with_reducible refine (alive12_any hT).mono ?_); rintro e wa ⟨rfl, hba⟩)
    go_ret
    exact ⟨rfl, hba⟩
  have e0 : decide (70 < (len0 : Int)) = false := decide_eq_false (by omega)
  by_cases hb1 : 70 < len1
  · have e1 : decide (70 < (len1 : Int)) = true := decide_eq_true (by omega)
    clear RL RM dl dm hl hm d60
    go_enter Tryd.func3, Tryd.ntmps3
    go_wp2_with (go_at_call 7; (with_reducible refine (alive12_any hT).mono ?_); rintro e wa ⟨rfl, hba⟩)
    go_ret
    exact ⟨rfl, hba⟩
  have e1 : decide (70 < (len1 : Int)) = false := decide_eq_false (by omega)
  by_cases hb2 : 6 < len0 ∧ 100 < a2
  · have e2 : decide (6 < (len0 : Int)) = true := decide_eq_true (by omega)
    have e3 : decide (100 < a2) = true := decide_eq_true hb2.2
    clear RL RM dl dm hl hm d60
    go_enter Tryd.func3, Tryd.ntmps3
    go_wp2_with (go_at_call 7; (with_reducible refine (alive12_any hT).mono ?_); rintro e wa ⟨rfl, hba⟩)
    go_ret
    exact ⟨rfl, hba⟩
  have hgo : decide (6 < (len0 : Int)) = false ∨ decide (6 < (len0 : Int)) = true ∧ decide (100 < a2) = false := by
    rcases Nat.lt_or_ge 6 len0 with h | h
    · exact .inr ⟨decide_eq_true (by omega), decide_eq_false (by omega)⟩
    · exact .inl (decide_eq_false (by omega))
  clear d60 hb2
  have HT := hT
  clear hT
  have bA := val_bits dl (show l.length ≤ 70 by omega)
  have bB := val_bits dm (show m.length ≤ 70 by omega)
  have RA := RL.numl dl (by omega)
  have RB := RM.numl dm (by omega)
  clear dl dm RL RM
  generalize val BB l = A at *
  generalize val BB m = B at *
  have sA4 : bitN A ≤ 400000 := by omega
  have sB4 : bitN B ≤ 400000 := by omega
  have sAA : bitN (A + A) ≤ 400000 := Nat.le_trans (bitN_mono (show A + A ≤ A * 2 ^ 1 by omega)) (Nat.le_trans (bitN_shl _ _) (by omega))
  obtain ⟨t3, h3⟩ : ∃ t, A + (A + A) = t := ⟨_, rfl⟩
  have s34 : bitN t3 ≤ 400000 := Nat.le_trans (bitN_mono (show t3 ≤ A * 2 ^ 2 by omega)) (Nat.le_trans (bitN_shl _ _) (by omega))
  obtain ⟨xa, ha⟩ : ∃ b, bitN A = b := ⟨_, rfl⟩
  obtain ⟨xb, hb⟩ : ∃ b, bitN B = b := ⟨_, rfl⟩
  obtain ⟨c, hc⟩ : ∃ c, cmpN t3 B = c := ⟨_, rfl⟩
  have E3 := Lib.hid h3; have EA := Lib.hid ha; have EB := Lib.hid hb; have EC := Lib.hid hc
  by_cases hs : 8 ≤ a2 ∧ a2 ≤ 9000
  · obtain ⟨s, rfl⟩ := Int.eq_ofNat_of_zero_le (show 0 ≤ a2 by omega)
    have s1 : 8 ≤ s := by omega
    have s2 : s ≤ 9000 := by omega
    have HR := Lib.hid (fun w => right_ok (w := w) s1 s2)
    by_cases q1 : 4096 < xa
    · have HAR := Lib.hid (fun w v u (h : Num w v A) (k : Num w u B) => Atanh_arg (s := (s : Int)) h k (by omega) (.inr (.inl (by omega))))
      have f1 : decide (4096 < (xa : Int)) = true := decide_eq_true (by omega)
      clear hs h3 ha hb hc
      rcases hgo with hg1 | ⟨hg1, hg2⟩
      all_goals
        go_enter Tryd.func3, Tryd.ntmps3
        go_wp2_with
      (first
        | (go_at_call 7; (with_reducible refine (alive12_any HT).mono ?_); rintro e w1 ⟨rfl, hb1⟩; have B1 := hb1; have a1 := RA.below hb1; have b1 := RB.below hb1; have T1 := HT.below hb1; clear RA RB HT)
        | (go_at_call 8; (with_reducible refine (HAR.out _ _ _ a1 b1).mono ?_); rintro e w2 ⟨rfl, hb2⟩; have B2 := B1.trans (hb2.mono B1.size); have a2 := a1.below hb2; have b2 := b1.below hb2; have T2 := T1.below hb2; clear a1 b1 T1)
        | (go_at_call 9; (with_reducible refine (to_n a2).mono ?_); rintro e w3 ⟨vx3, rfl, x3, hb3⟩; have B3 := B2.trans (hb3.mono B2.size); have a3 := a2.below hb3; have b3 := b2.below hb3; have T3 := T2.below hb3; clear a2 b2 T2)
        | (go_at_call 9; (with_reducible refine (to_n b3).mono ?_); rintro e w4 ⟨vy4, rfl, y4, hb4⟩; have B4 := B3.trans (hb4.mono B3.size); have a4 := a3.below hb4; have b4 := b3.below hb4; have T4 := T3.below hb4; have x4 := x3.below hb4; clear a3 b3 T3 x3; obtain ⟨ay4, ky4, rfl, -⟩ := y4.view; try simp only [List.length_nil] at y4)
        | (go_at_call 10; (with_reducible refine (radd_n x4 x4 rfl sA4 sA4).mono ?_); rintro e w5 ⟨vd5, rfl, d5, hb5⟩; have B5 := B4.trans (hb5.mono B4.size); have a5 := a4.below hb5; have b5 := b4.below hb5; have T5 := T4.below hb5; have x5 := x4.below hb5; have y5 := y4.below hb5; clear a4 b4 T4 x4 y4)
        | (go_at_call 10; (with_reducible refine (radd_n x5 d5 E3.out sA4 sAA).mono ?_); rintro e w6 ⟨vt6, rfl, t6, hb6⟩; have B6 := B5.trans (hb6.mono B5.size); have a6 := a5.below hb6; have b6 := b5.below hb6; have T6 := T5.below hb6; have x6 := x5.below hb6; have y6 := y5.below hb6; have d6 := d5.below hb6; clear a5 b5 T5 x5 y5 d5)
        | (go_at_call 11; (with_reducible refine (HR.out _).mono ?_); rintro e w7 ⟨rfl, rfl⟩)
        | (go_at_call 12; (with_reducible refine (rbits_n x6 EA.out sA4).mono ?_); rintro e w8 ⟨rfl, rfl⟩)
        | (go_at_call 12; (with_reducible refine (rbits_n y6 EB.out sB4).mono ?_); rintro e w9 ⟨rfl, rfl⟩)
        | (go_at_call 13; (with_reducible refine (rcmp_n t6 y6 EC.out s34).mono ?_); rintro e w10 ⟨rfl, hb10⟩; have B10 := B6.trans (hb10.mono B6.size); have a10 := a6.below hb10; have b10 := b6.below hb10; have T10 := T6.below hb10; have x10 := x6.below hb10; have y10 := y6.below hb10; have d10 := d6.below hb10; have t10 := t6.below hb10; clear a6 b6 T6 x6 y6 d6 t6)
        | fail)
        go_ret
        exact ⟨rfl, by assumption⟩
    have f1 : decide (4096 < (xa : Int)) = false := decide_eq_false (by omega)
    by_cases q2 : 4096 < xb
    · have HAR := Lib.hid (fun w v u (h : Num w v A) (k : Num w u B) => Atanh_arg (s := (s : Int)) h k (by omega) (.inr (.inr (.inl (by omega)))))
      have f2 : decide (4096 < (xb : Int)) = true := decide_eq_true (by omega)
      clear hs h3 ha hb hc
      rcases hgo with hg1 | ⟨hg1, hg2⟩
      all_goals
        go_enter Tryd.func3, Tryd.ntmps3
        go_wp2_with
      (first
        | (go_at_call 7; (with_reducible refine (alive12_any HT).mono ?_); rintro e w1 ⟨rfl, hb1⟩; have B1 := hb1; have a1 := RA.below hb1; have b1 := RB.below hb1; have T1 := HT.below hb1; clear RA RB HT)
        | (go_at_call 8; (with_reducible refine (HAR.out _ _ _ a1 b1).mono ?_); rintro e w2 ⟨rfl, hb2⟩; have B2 := B1.trans (hb2.mono B1.size); have a2 := a1.below hb2; have b2 := b1.below hb2; have T2 := T1.below hb2; clear a1 b1 T1)
        | (go_at_call 9; (with_reducible refine (to_n a2).mono ?_); rintro e w3 ⟨vx3, rfl, x3, hb3⟩; have B3 := B2.trans (hb3.mono B2.size); have a3 := a2.below hb3; have b3 := b2.below hb3; have T3 := T2.below hb3; clear a2 b2 T2)
        | (go_at_call 9; (with_reducible refine (to_n b3).mono ?_); rintro e w4 ⟨vy4, rfl, y4, hb4⟩; have B4 := B3.trans (hb4.mono B3.size); have a4 := a3.below hb4; have b4 := b3.below hb4; have T4 := T3.below hb4; have x4 := x3.below hb4; clear a3 b3 T3 x3; obtain ⟨ay4, ky4, rfl, -⟩ := y4.view; try simp only [List.length_nil] at y4)
        | (go_at_call 10; (with_reducible refine (radd_n x4 x4 rfl sA4 sA4).mono ?_); rintro e w5 ⟨vd5, rfl, d5, hb5⟩; have B5 := B4.trans (hb5.mono B4.size); have a5 := a4.below hb5; have b5 := b4.below hb5; have T5 := T4.below hb5; have x5 := x4.below hb5; have y5 := y4.below hb5; clear a4 b4 T4 x4 y4)
        | (go_at_call 10; (with_reducible refine (radd_n x5 d5 E3.out sA4 sAA).mono ?_); rintro e w6 ⟨vt6, rfl, t6, hb6⟩; have B6 := B5.trans (hb6.mono B5.size); have a6 := a5.below hb6; have b6 := b5.below hb6; have T6 := T5.below hb6; have x6 := x5.below hb6; have y6 := y5.below hb6; have d6 := d5.below hb6; clear a5 b5 T5 x5 y5 d5)
        | (go_at_call 11; (with_reducible refine (HR.out _).mono ?_); rintro e w7 ⟨rfl, rfl⟩)
        | (go_at_call 12; (with_reducible refine (rbits_n x6 EA.out sA4).mono ?_); rintro e w8 ⟨rfl, rfl⟩)
        | (go_at_call 12; (with_reducible refine (rbits_n y6 EB.out sB4).mono ?_); rintro e w9 ⟨rfl, rfl⟩)
        | (go_at_call 13; (with_reducible refine (rcmp_n t6 y6 EC.out s34).mono ?_); rintro e w10 ⟨rfl, hb10⟩; have B10 := B6.trans (hb10.mono B6.size); have a10 := a6.below hb10; have b10 := b6.below hb10; have T10 := T6.below hb10; have x10 := x6.below hb10; have y10 := y6.below hb10; have d10 := d6.below hb10; have t10 := t6.below hb10; clear a6 b6 T6 x6 y6 d6 t6)
        | fail)
        go_ret
        exact ⟨rfl, by assumption⟩
    have f2 : decide (4096 < (xb : Int)) = false := decide_eq_false (by omega)
    by_cases q3 : B = 0
    · have HAR := Lib.hid (fun w v u (h : Num w v A) (k : Num w u B) => Atanh_arg (s := (s : Int)) h k (by omega) (.inr (.inr (.inr (.inl q3)))))
      have f3 : (((digs DD B).length : Int) == 0) = true := by rw [q3, digs_zero]; rfl
      clear hs h3 ha hb hc q3
      rcases hgo with hg1 | ⟨hg1, hg2⟩
      all_goals
        go_enter Tryd.func3, Tryd.ntmps3
        go_wp2_with
      (first
        | (go_at_call 7; (with_reducible refine (alive12_any HT).mono ?_); rintro e w1 ⟨rfl, hb1⟩; have B1 := hb1; have a1 := RA.below hb1; have b1 := RB.below hb1; have T1 := HT.below hb1; clear RA RB HT)
        | (go_at_call 8; (with_reducible refine (HAR.out _ _ _ a1 b1).mono ?_); rintro e w2 ⟨rfl, hb2⟩; have B2 := B1.trans (hb2.mono B1.size); have a2 := a1.below hb2; have b2 := b1.below hb2; have T2 := T1.below hb2; clear a1 b1 T1)
        | (go_at_call 9; (with_reducible refine (to_n a2).mono ?_); rintro e w3 ⟨vx3, rfl, x3, hb3⟩; have B3 := B2.trans (hb3.mono B2.size); have a3 := a2.below hb3; have b3 := b2.below hb3; have T3 := T2.below hb3; clear a2 b2 T2)
        | (go_at_call 9; (with_reducible refine (to_n b3).mono ?_); rintro e w4 ⟨vy4, rfl, y4, hb4⟩; have B4 := B3.trans (hb4.mono B3.size); have a4 := a3.below hb4; have b4 := b3.below hb4; have T4 := T3.below hb4; have x4 := x3.below hb4; clear a3 b3 T3 x3; obtain ⟨ay4, ky4, rfl, -⟩ := y4.view; try simp only [List.length_nil] at y4)
        | (go_at_call 10; (with_reducible refine (radd_n x4 x4 rfl sA4 sA4).mono ?_); rintro e w5 ⟨vd5, rfl, d5, hb5⟩; have B5 := B4.trans (hb5.mono B4.size); have a5 := a4.below hb5; have b5 := b4.below hb5; have T5 := T4.below hb5; have x5 := x4.below hb5; have y5 := y4.below hb5; clear a4 b4 T4 x4 y4)
        | (go_at_call 10; (with_reducible refine (radd_n x5 d5 E3.out sA4 sAA).mono ?_); rintro e w6 ⟨vt6, rfl, t6, hb6⟩; have B6 := B5.trans (hb6.mono B5.size); have a6 := a5.below hb6; have b6 := b5.below hb6; have T6 := T5.below hb6; have x6 := x5.below hb6; have y6 := y5.below hb6; have d6 := d5.below hb6; clear a5 b5 T5 x5 y5 d5)
        | (go_at_call 11; (with_reducible refine (HR.out _).mono ?_); rintro e w7 ⟨rfl, rfl⟩)
        | (go_at_call 12; (with_reducible refine (rbits_n x6 EA.out sA4).mono ?_); rintro e w8 ⟨rfl, rfl⟩)
        | (go_at_call 12; (with_reducible refine (rbits_n y6 EB.out sB4).mono ?_); rintro e w9 ⟨rfl, rfl⟩)
        | (go_at_call 13; (with_reducible refine (rcmp_n t6 y6 EC.out s34).mono ?_); rintro e w10 ⟨rfl, hb10⟩; have B10 := B6.trans (hb10.mono B6.size); have a10 := a6.below hb10; have b10 := b6.below hb10; have T10 := T6.below hb10; have x10 := x6.below hb10; have y10 := y6.below hb10; have d10 := d6.below hb10; have t10 := t6.below hb10; clear a6 b6 T6 x6 y6 d6 t6)
        | fail)
        go_ret
        exact ⟨rfl, by assumption⟩
    have f3 : (((digs DD B).length : Int) == 0) = false := beq_false_of_ne (by
      have := List.length_pos_iff.2 (fun e => q3 ((digs_nil_iff DD_two B).1 e))
      omega)
    by_cases q4 : B < t3
    · have HAR := Lib.hid (fun w v u (h : Num w v A) (k : Num w u B) => Atanh_arg (s := (s : Int)) h k (by omega) (.inr (.inr (.inr (.inr (by omega))))))
      have f4 : decide (0 < c) = true := decide_eq_true (by rw [← hc]; unfold cmpN; rw [if_neg (by omega), if_neg (by omega)]; decide)
      clear hs h3 ha hb hc q3
      rcases hgo with hg1 | ⟨hg1, hg2⟩
      all_goals
        go_enter Tryd.func3, Tryd.ntmps3
        go_wp2_with
      (first
        | (go_at_call 7; (with_reducible refine (alive12_any HT).mono ?_); rintro e w1 ⟨rfl, hb1⟩; have B1 := hb1; have a1 := RA.below hb1; have b1 := RB.below hb1; have T1 := HT.below hb1; clear RA RB HT)
        | (go_at_call 8; (with_reducible refine (HAR.out _ _ _ a1 b1).mono ?_); rintro e w2 ⟨rfl, hb2⟩; have B2 := B1.trans (hb2.mono B1.size); have a2 := a1.below hb2; have b2 := b1.below hb2; have T2 := T1.below hb2; clear a1 b1 T1)
        | (go_at_call 9; (with_reducible refine (to_n a2).mono ?_); rintro e w3 ⟨vx3, rfl, x3, hb3⟩; have B3 := B2.trans (hb3.mono B2.size); have a3 := a2.below hb3; have b3 := b2.below hb3; have T3 := T2.below hb3; clear a2 b2 T2)
        | (go_at_call 9; (with_reducible refine (to_n b3).mono ?_); rintro e w4 ⟨vy4, rfl, y4, hb4⟩; have B4 := B3.trans (hb4.mono B3.size); have a4 := a3.below hb4; have b4 := b3.below hb4; have T4 := T3.below hb4; have x4 := x3.below hb4; clear a3 b3 T3 x3; obtain ⟨ay4, ky4, rfl, -⟩ := y4.view; try simp only [List.length_nil] at y4)
        | (go_at_call 10; (with_reducible refine (radd_n x4 x4 rfl sA4 sA4).mono ?_); rintro e w5 ⟨vd5, rfl, d5, hb5⟩; have B5 := B4.trans (hb5.mono B4.size); have a5 := a4.below hb5; have b5 := b4.below hb5; have T5 := T4.below hb5; have x5 := x4.below hb5; have y5 := y4.below hb5; clear a4 b4 T4 x4 y4)
        | (go_at_call 10; (with_reducible refine (radd_n x5 d5 E3.out sA4 sAA).mono ?_); rintro e w6 ⟨vt6, rfl, t6, hb6⟩; have B6 := B5.trans (hb6.mono B5.size); have a6 := a5.below hb6; have b6 := b5.below hb6; have T6 := T5.below hb6; have x6 := x5.below hb6; have y6 := y5.below hb6; have d6 := d5.below hb6; clear a5 b5 T5 x5 y5 d5)
        | (go_at_call 11; (with_reducible refine (HR.out _).mono ?_); rintro e w7 ⟨rfl, rfl⟩)
        | (go_at_call 12; (with_reducible refine (rbits_n x6 EA.out sA4).mono ?_); rintro e w8 ⟨rfl, rfl⟩)
        | (go_at_call 12; (with_reducible refine (rbits_n y6 EB.out sB4).mono ?_); rintro e w9 ⟨rfl, rfl⟩)
        | (go_at_call 13; (with_reducible refine (rcmp_n t6 y6 EC.out s34).mono ?_); rintro e w10 ⟨rfl, hb10⟩; have B10 := B6.trans (hb10.mono B6.size); have a10 := a6.below hb10; have b10 := b6.below hb10; have T10 := T6.below hb10; have x10 := x6.below hb10; have y10 := y6.below hb10; have d10 := d6.below hb10; have t10 := t6.below hb10; clear a6 b6 T6 x6 y6 d6 t6)
        | fail)
        go_ret
        exact ⟨rfl, by assumption⟩
    have f4 : decide (0 < c) = false := decide_eq_false (by rw [← hc]; have := cmpN_le' (show t3 ≤ B by omega); omega)
    have hB : 0 < B := by omega
    have hAB : 3 * A ≤ B := by omega
    have zA : bitN A ≤ 4096 := by omega
    have zB : bitN B ≤ 4096 := by omega
    have HAT := Lib.hid (fun w v u (h : Num w v A) (k : Num w u B) (hT : Tab w) => tells h k hT s1 s2 zA zB hB hAB)
    have KO := Lib.hid (fun L H (h : AtOk A B s L H) => And.intro (h.bits s1 s2) (at_holds h hB hAB))
    have wa : IntKind.i64.wrap ((s : Int) + 64) = (s : Int) + 64 := by rw [IntKind.wrap_i64]; omega
    have wb : IntKind.i64.wrap ((s : Int) + 80) = (s : Int) + 80 := by rw [IntKind.wrap_i64]; omega
    have HW : Hid (∀ w v u L H, Num w v L → Num w u H → AtOk A B s L H → Calls Tryd.prog 14 #[v, u, .int .i64 ((s : Int) + 64)] w fun e w' => e = .returned (.bool true) ∧ Below w.heap.size w w') := Lib.hid (fun w v u L H h k ok => wide_ok (m := s + 64) h k ok.le ok.wide (by omega))
    obtain ⟨R, hR⟩ : ∃ R, refAt A B (2 ^ (s + 80)) ((s + 80) / 3 + 2) = R := ⟨_, rfl⟩
    have HRA : Hid (∀ w v u, RdD w v (digs DD A) → RdD w u (digs DD B) → Calls Tryd.prog 16 #[v, u, .int .i64 ((s : Int) + 80)] w (OneD w (digs DD R))) := Lib.hid (fun w v u h k => by
      rw [← hR]; exact ratanh_n (n := s + 80) h k (by omega) zA zB hB (by omega))
    have sR : s ≤ 500 → bitN R ≤ 20000 := fun hle => by
      have hT0 : 0 < 2 ^ (s + 80) := Nat.two_pow_pos _
      have r1 : A * 2 ^ (s + 80) / B ≤ 2 ^ (s + 80) := Nat.div_le_of_le_mul (Nat.mul_le_mul_right _ (by omega))
      have r2 : ∀ r, r ≤ 2 ^ (s + 80) → refH (2 ^ (s + 80)) (r * r / 2 ^ (s + 80)) ((s + 80) / 3 + 2) ((s + 80) / 3 + 2 + 1) * r / 2 ^ (s + 80) ≤ 8192 * 2 ^ (s + 80) := fun r hr => by
        have q0 : r * r / 2 ^ (s + 80) ≤ 2 ^ (s + 80) := Nat.div_le_of_le_mul (Nat.mul_le_mul hr hr)
        have q1 := refH_size (M := (s + 80) / 3 + 2) hT0 q0 ((s + 80) / 3 + 2 + 1)
        refine Nat.le_trans (Nat.div_le_of_le_mul ?_) (Nat.le_trans q1 (Nat.mul_le_mul_right _ (by omega)))
        rw [Nat.mul_comm]; exact Nat.mul_le_mul_right _ hr
      rw [← hR]
      unfold refAt
      exact Nat.le_trans (bitN_le_pow (r2 _ r1)) (by omega)
    rw [hR] at KO
    by_cases hbig : 500 < s
    · have f5 : decide (500 < (s : Int)) = true := decide_eq_true (by omega)
      clear hs h3 ha hb hc q3 hR sR
      rcases hgo with hg1 | ⟨hg1, hg2⟩
      all_goals
        go_enter Tryd.func3, Tryd.ntmps3
        go_wp2_with
      (first
        | (go_at_call 7; (with_reducible refine (alive12_any HT).mono ?_); rintro e w1 ⟨rfl, hb1⟩; have B1 := hb1; have a1 := RA.below hb1; have b1 := RB.below hb1; have T1 := HT.below hb1; clear RA RB HT)
        | (go_at_call 8; (with_reducible refine (HAT.out _ _ _ a1 b1 T1).mono ?_); rintro e w2 ⟨vl, vh, L, H, rfl, l2, h2, ok, hb2⟩; have B2 := B1.trans (hb2.mono B1.size); have a2 := a1.below hb2; have b2 := b1.below hb2; have T2 := T1.below hb2; clear a1 b1 T1; obtain ⟨⟨bl, bh⟩, k1, k2⟩ := KO.out _ _ ok)
        | (go_at_call 9; (with_reducible refine (to_n a2).mono ?_); rintro e w3 ⟨vx3, rfl, x3, hb3⟩; have B3 := B2.trans (hb3.mono B2.size); have a3 := a2.below hb3; have b3 := b2.below hb3; have T3 := T2.below hb3; have l3 := l2.below hb3; have h3 := h2.below hb3; clear a2 b2 T2 l2 h2)
        | (go_at_call 9; (with_reducible refine (to_n b3).mono ?_); rintro e w4 ⟨vy4, rfl, y4, hb4⟩; have B4 := B3.trans (hb4.mono B3.size); have a4 := a3.below hb4; have b4 := b3.below hb4; have T4 := T3.below hb4; have l4 := l3.below hb4; have h4 := h3.below hb4; have x4 := x3.below hb4; clear a3 b3 T3 l3 h3 x3; obtain ⟨ay4, ky4, rfl, -⟩ := y4.view; try simp only [List.length_nil] at y4)
        | (go_at_call 10; (with_reducible refine (radd_n x4 x4 rfl sA4 sA4).mono ?_); rintro e w5 ⟨vd5, rfl, d5, hb5⟩; have B5 := B4.trans (hb5.mono B4.size); have a5 := a4.below hb5; have b5 := b4.below hb5; have T5 := T4.below hb5; have l5 := l4.below hb5; have h5 := h4.below hb5; have x5 := x4.below hb5; have y5 := y4.below hb5; clear a4 b4 T4 l4 h4 x4 y4)
        | (go_at_call 10; (with_reducible refine (radd_n x5 d5 E3.out sA4 sAA).mono ?_); rintro e w6 ⟨vt6, rfl, t6, hb6⟩; have B6 := B5.trans (hb6.mono B5.size); have a6 := a5.below hb6; have b6 := b5.below hb6; have T6 := T5.below hb6; have l6 := l5.below hb6; have h6 := h5.below hb6; have x6 := x5.below hb6; have y6 := y5.below hb6; have d6 := d5.below hb6; clear a5 b5 T5 l5 h5 x5 y5 d5)
        | (go_at_call 11; (with_reducible refine (HR.out _).mono ?_); rintro e w7 ⟨rfl, rfl⟩)
        | (go_at_call 12; (with_reducible refine (rbits_n x6 EA.out sA4).mono ?_); rintro e w8 ⟨rfl, rfl⟩)
        | (go_at_call 12; (with_reducible refine (rbits_n y6 EB.out sB4).mono ?_); rintro e w9 ⟨rfl, rfl⟩)
        | (go_at_call 13; (with_reducible refine (rcmp_n t6 y6 EC.out s34).mono ?_); rintro e w10 ⟨rfl, hb10⟩; have B10 := B6.trans (hb10.mono B6.size); have a10 := a6.below hb10; have b10 := b6.below hb10; have T10 := T6.below hb10; have l10 := l6.below hb10; have h10 := h6.below hb10; have x10 := x6.below hb10; have y10 := y6.below hb10; have d10 := d6.below hb10; have t10 := t6.below hb10; clear a6 b6 T6 l6 h6 x6 y6 d6 t6)
        | (go_at_call 14; (with_reducible refine (HW.out _ _ _ _ _ (l10.num (by omega)) (h10.num (by omega)) ok).mono ?_); rintro e w11 ⟨rfl, hb11⟩; have B11 := B10.trans (hb11.mono B10.size); have a11 := a10.below hb11; have b11 := b10.below hb11; have T11 := T10.below hb11; have l11 := l10.below hb11; have h11 := h10.below hb11; have x11 := x10.below hb11; have y11 := y10.below hb11; have d11 := d10.below hb11; have t11 := t10.below hb11; clear a10 b10 T10 l10 h10 x10 y10 d10 t10)
        | fail)
        go_ret
        exact ⟨rfl, by assumption⟩
    · have f5 : decide (500 < (s : Int)) = false := decide_eq_false (by omega)
      replace sR := sR (by omega)
      clear hs h3 ha hb hc q3 hR
      rcases hgo with hg1 | ⟨hg1, hg2⟩
      all_goals
        go_enter Tryd.func3, Tryd.ntmps3
        go_wp2_with
      (first
        | (go_at_call 7; (with_reducible refine (alive12_any HT).mono ?_); rintro e w1 ⟨rfl, hb1⟩; have B1 := hb1; have a1 := RA.below hb1; have b1 := RB.below hb1; have T1 := HT.below hb1; clear RA RB HT)
        | (go_at_call 8; (with_reducible refine (HAT.out _ _ _ a1 b1 T1).mono ?_); rintro e w2 ⟨vl, vh, L, H, rfl, l2, h2, ok, hb2⟩; have B2 := B1.trans (hb2.mono B1.size); have a2 := a1.below hb2; have b2 := b1.below hb2; have T2 := T1.below hb2; clear a1 b1 T1; obtain ⟨⟨bl, bh⟩, k1, k2⟩ := KO.out _ _ ok)
        | (go_at_call 9; (with_reducible refine (to_n a2).mono ?_); rintro e w3 ⟨vx3, rfl, x3, hb3⟩; have B3 := B2.trans (hb3.mono B2.size); have a3 := a2.below hb3; have b3 := b2.below hb3; have T3 := T2.below hb3; have l3 := l2.below hb3; have h3 := h2.below hb3; clear a2 b2 T2 l2 h2)
        | (go_at_call 9; (with_reducible refine (to_n b3).mono ?_); rintro e w4 ⟨vy4, rfl, y4, hb4⟩; have B4 := B3.trans (hb4.mono B3.size); have a4 := a3.below hb4; have b4 := b3.below hb4; have T4 := T3.below hb4; have l4 := l3.below hb4; have h4 := h3.below hb4; have x4 := x3.below hb4; clear a3 b3 T3 l3 h3 x3; obtain ⟨ay4, ky4, rfl, -⟩ := y4.view; try simp only [List.length_nil] at y4)
        | (go_at_call 10; (with_reducible refine (radd_n x4 x4 rfl sA4 sA4).mono ?_); rintro e w5 ⟨vd5, rfl, d5, hb5⟩; have B5 := B4.trans (hb5.mono B4.size); have a5 := a4.below hb5; have b5 := b4.below hb5; have T5 := T4.below hb5; have l5 := l4.below hb5; have h5 := h4.below hb5; have x5 := x4.below hb5; have y5 := y4.below hb5; clear a4 b4 T4 l4 h4 x4 y4)
        | (go_at_call 10; (with_reducible refine (radd_n x5 d5 E3.out sA4 sAA).mono ?_); rintro e w6 ⟨vt6, rfl, t6, hb6⟩; have B6 := B5.trans (hb6.mono B5.size); have a6 := a5.below hb6; have b6 := b5.below hb6; have T6 := T5.below hb6; have l6 := l5.below hb6; have h6 := h5.below hb6; have x6 := x5.below hb6; have y6 := y5.below hb6; have d6 := d5.below hb6; clear a5 b5 T5 l5 h5 x5 y5 d5)
        | (go_at_call 11; (with_reducible refine (HR.out _).mono ?_); rintro e w7 ⟨rfl, rfl⟩)
        | (go_at_call 12; (with_reducible refine (rbits_n x6 EA.out sA4).mono ?_); rintro e w8 ⟨rfl, rfl⟩)
        | (go_at_call 12; (with_reducible refine (rbits_n y6 EB.out sB4).mono ?_); rintro e w9 ⟨rfl, rfl⟩)
        | (go_at_call 13; (with_reducible refine (rcmp_n t6 y6 EC.out s34).mono ?_); rintro e w10 ⟨rfl, hb10⟩; have B10 := B6.trans (hb10.mono B6.size); have a10 := a6.below hb10; have b10 := b6.below hb10; have T10 := T6.below hb10; have l10 := l6.below hb10; have h10 := h6.below hb10; have x10 := x6.below hb10; have y10 := y6.below hb10; have d10 := d6.below hb10; have t10 := t6.below hb10; clear a6 b6 T6 l6 h6 x6 y6 d6 t6)
        | (go_at_call 14; (with_reducible refine (HW.out _ _ _ _ _ (l10.num (by omega)) (h10.num (by omega)) ok).mono ?_); rintro e w11 ⟨rfl, hb11⟩; have B11 := B10.trans (hb11.mono B10.size); have a11 := a10.below hb11; have b11 := b10.below hb11; have T11 := T10.below hb11; have l11 := l10.below hb11; have h11 := h10.below hb11; have x11 := x10.below hb11; have y11 := y10.below hb11; have d11 := d10.below hb11; have t11 := t10.below hb11; clear a10 b10 T10 l10 h10 x10 y10 d10 t10)
        | (go_at_call 16; (with_reducible refine (HRA.out _ _ _ x11 y11).mono ?_); rintro e w12 ⟨vr12, rfl, r12, hb12⟩; have B12 := B11.trans (hb12.mono B11.size); have a12 := a11.below hb12; have b12 := b11.below hb12; have T12 := T11.below hb12; have l12 := l11.below hb12; have h12 := h11.below hb12; have x12 := x11.below hb12; have y12 := y11.below hb12; have d12 := d11.below hb12; have t12 := t11.below hb12; clear a11 b11 T11 l11 h11 x11 y11 d11 t11)
        | (go_at_call 15; (with_reducible refine (holds_ok (l12.num (by omega)) (h12.num (by omega)) r12 bl bh sR k1 k2).mono ?_); rintro e w13 ⟨rfl, hb13⟩; have B13 := B12.trans (hb13.mono B12.size); have a13 := a12.below hb13; have b13 := b12.below hb13; have T13 := T12.below hb13; have l13 := l12.below hb13; have h13 := h12.below hb13; have x13 := x12.below hb13; have y13 := y12.below hb13; have d13 := d12.below hb13; have t13 := t12.below hb13; have r13 := r12.below hb13; clear a12 b12 T12 l12 h12 x12 y12 d12 t12 r12)
        | fail)
        go_ret
        exact ⟨rfl, by assumption⟩
  · have HAR := Lib.hid (fun w v u (h : Num w v A) (k : Num w u B) => Atanh_arg (s := a2) h k (by omega) (.inl hs))
    have HR := Lib.hid (fun w => right_no (w := w) (s := a2) (by omega))
    clear hs h3 ha hb hc
    rcases hgo with hg1 | ⟨hg1, hg2⟩
    all_goals
      go_enter Tryd.func3, Tryd.ntmps3
      go_wp2_with
    (first
      | (go_at_call 7; (with_reducible refine (alive12_any HT).mono ?_); rintro e w1 ⟨rfl, hb1⟩; have B1 := hb1; have a1 := RA.below hb1; have b1 := RB.below hb1; have T1 := HT.below hb1; clear RA RB HT)
      | (go_at_call 8; (with_reducible refine (HAR.out _ _ _ a1 b1).mono ?_); rintro e w2 ⟨rfl, hb2⟩; have B2 := B1.trans (hb2.mono B1.size); have a2 := a1.below hb2; have b2 := b1.below hb2; have T2 := T1.below hb2; clear a1 b1 T1)
      | (go_at_call 9; (with_reducible refine (to_n a2).mono ?_); rintro e w3 ⟨vx3, rfl, x3, hb3⟩; have B3 := B2.trans (hb3.mono B2.size); have a3 := a2.below hb3; have b3 := b2.below hb3; have T3 := T2.below hb3; clear a2 b2 T2)
      | (go_at_call 9; (with_reducible refine (to_n b3).mono ?_); rintro e w4 ⟨vy4, rfl, y4, hb4⟩; have B4 := B3.trans (hb4.mono B3.size); have a4 := a3.below hb4; have b4 := b3.below hb4; have T4 := T3.below hb4; have x4 := x3.below hb4; clear a3 b3 T3 x3; obtain ⟨ay4, ky4, rfl, -⟩ := y4.view; try simp only [List.length_nil] at y4)
      | (go_at_call 10; (with_reducible refine (radd_n x4 x4 rfl sA4 sA4).mono ?_); rintro e w5 ⟨vd5, rfl, d5, hb5⟩; have B5 := B4.trans (hb5.mono B4.size); have a5 := a4.below hb5; have b5 := b4.below hb5; have T5 := T4.below hb5; have x5 := x4.below hb5; have y5 := y4.below hb5; clear a4 b4 T4 x4 y4)
      | (go_at_call 10; (with_reducible refine (radd_n x5 d5 E3.out sA4 sAA).mono ?_); rintro e w6 ⟨vt6, rfl, t6, hb6⟩; have B6 := B5.trans (hb6.mono B5.size); have a6 := a5.below hb6; have b6 := b5.below hb6; have T6 := T5.below hb6; have x6 := x5.below hb6; have y6 := y5.below hb6; have d6 := d5.below hb6; clear a5 b5 T5 x5 y5 d5)
      | (go_at_call 11; (with_reducible refine (HR.out _).mono ?_); rintro e w7 ⟨rfl, rfl⟩)
      | (go_at_call 12; (with_reducible refine (rbits_n x6 EA.out sA4).mono ?_); rintro e w8 ⟨rfl, rfl⟩)
      | (go_at_call 12; (with_reducible refine (rbits_n y6 EB.out sB4).mono ?_); rintro e w9 ⟨rfl, rfl⟩)
      | (go_at_call 13; (with_reducible refine (rcmp_n t6 y6 EC.out s34).mono ?_); rintro e w10 ⟨rfl, hb10⟩; have B10 := B6.trans (hb10.mono B6.size); have a10 := a6.below hb10; have b10 := b6.below hb10; have T10 := T6.below hb10; have x10 := x6.below hb10; have y10 := y6.below hb10; have d10 := d6.below hb10; have t10 := t6.below hb10; clear a6 b6 T6 x6 y6 d6 t6)
      | fail)
      go_ret
      exact ⟨rfl, by assumption⟩
end Go.Proofs.YtecgimdgmilcbaaDoor.SAtanh
