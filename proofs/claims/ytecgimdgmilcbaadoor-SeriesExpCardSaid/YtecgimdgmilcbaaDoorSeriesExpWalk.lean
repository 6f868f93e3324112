/- SeriesExp returns true and leaves what was there: the walk. Conditions: math/bits' table stands in its variable. -/
import Derived.Test.YtecgimdgmilcbaaDoorSer7
import Derived.Test.YtecgimdgmilcbaaDoorSer9
import Derived.Test.YtecgimdgmilcbaaDoorSRef3
namespace Go.Proofs.YtecgimdgmilcbaaDoor.SExp
set_option maxRecDepth 100000
open Go.RowKit Go.Proofs.YtecgimdgmilcbaaDoor
set_option linter.unusedVariables false

theorem _root_.Go.Proofs.YtecgimdgmilcbaaDoor.ExOk.bits {A B s L H : Nat} (h : ExOk A B s L H) (s2 : s ≤ 9000) : bitN L ≤ 20000 ∧ bitN H ≤ 20000 := by
  have h0 := Nat.two_pow_pos s
  have h1 := h.short
  have h2 := h.le
  have h3 : (s + 4) * 2 ^ s ≤ 9004 * 2 ^ s := Nat.mul_le_mul_right _ (by omega)
  have hb : ∀ x, x ≤ 20000 * 2 ^ s → bitN x ≤ 20000 := fun x hx => Nat.le_trans (bitN_le.2 (show x < 2 ^ (s + 15) by rw [Nat.pow_add]; omega)) (by omega)
  exact ⟨hb _ (by omega), hb _ (by omega)⟩
theorem _root_.Go.Proofs.YtecgimdgmilcbaaDoor.cmp_le {w : World} {v u : Value} {A B : Nat} (h : Num w v A) (k : Num w u B) (e : A ≤ B) : Calls Tryd.prog 22 #[v, u] w (fun e w' => ∃ c, e = .returned (.int .i64 c) ∧ decide (0 < c) = false ∧ Below w.heap.size w w') := by
  refine (cmp_n h k rfl).mono ?_
  rintro e w1 ⟨rfl, h1⟩
  exact ⟨_, rfl, decide_eq_false (by have := cmpN_le' (show A ≤ B from ‹_›); omega), h1⟩
theorem _root_.Go.Proofs.YtecgimdgmilcbaaDoor.rcmp_le {w : World} {v u : Value} {A B : Nat} (h : RdD w v (digs DD A)) (k : RdD w u (digs DD B)) (e : A ≤ B) (sA : bitN A ≤ 400000) : Calls Tryd.prog 13 #[v, u] w (fun e w' => ∃ c, e = .returned (.int .i64 c) ∧ decide (c ≤ 0) = true ∧ Below w.heap.size w w') := by
  refine (rcmp_n h k rfl sA).mono ?_
  rintro e w1 ⟨rfl, h1⟩
  exact ⟨_, rfl, decide_eq_true (cmpN_le' (show A ≤ B from ‹_›)), h1⟩

theorem _root_.Go.Proofs.YtecgimdgmilcbaaDoor.rshl_80 {w : World} {v : Value} {A : Nat} (h : RdD w v (digs DD A)) (sA : bitN A + 80 ≤ 200000) : Calls Tryd.prog 21 #[v, .int .i64 80] w (OneD w (digs DD (A * 2 ^ 80))) := rshl_n (n := 80) h sA


set_option maxRecDepth 100000 in
set_option maxHeartbeats 4000000 in
theorem walk (a0 : Option Addr) (len0 cap0 : Nat) (z0 : List Int) (a1 : Option Addr) (len1 cap1 : Nat) (z1 : List Int) (a2 : Int) (w : World) (w0 : IsRow .u64 w a0 len0 cap0 z0) (w1 : IsRow .u64 w a1 len1 cap1 z1) (w2 : (Lit.int .i64 a2).wf = true) (hT : Tab w) :
    Calls Tryd.prog 5 #[.slice a0 len0 cap0, .slice a1 len1 cap1, .int .i64 a2] w fun e w' => e = .returned (.bool true) ∧ Below w.heap.size w w' := by
  obtain ⟨l, hl, dl, RL, hl64⟩ := w0.nums
  obtain ⟨m, hm, dm, RM, hm64⟩ := w1.nums
  have h1 : -9223372036854775808 ≤ a2 ∧ a2 ≤ 9223372036854775807 := by simpa [Lit.wf, IntKind.min, IntKind.max, IntKind.bits, IntKind.signed] using w2
  clear w0 w1 w2
  by_cases hb0 : 150 < len0
  · have e0 : decide (150 < (len0 : Int)) = true := decide_eq_true (by omega)
    clear RL RM dl dm hl hm
    go_enter Tryd.func5, Tryd.ntmps5
    go_wp2_with (go_at_call 7; (with_reducible refine (alive12_any hT).mono ?_); rintro e wa ⟨rfl, hba⟩)
    go_ret
    exact ⟨rfl, hba⟩
  have e0 : decide (150 < (len0 : Int)) = false := decide_eq_false (by omega)
  by_cases hb1 : 150 < len1
  · have e1 : decide (150 < (len1 : Int)) = true := decide_eq_true (by omega)
    clear RL RM dl dm hl hm
    go_enter Tryd.func5, Tryd.ntmps5
    go_wp2_with (go_at_call 7; (with_reducible refine (alive12_any hT).mono ?_); rintro e wa ⟨rfl, hba⟩)
    go_ret
    exact ⟨rfl, hba⟩
  have e1 : decide (150 < (len1 : Int)) = false := decide_eq_false (by omega)
  have HT := hT
  clear hT
  have bA := val_bits dl (show l.length ≤ 150 by omega)
  have bB := val_bits dm (show m.length ≤ 150 by omega)
  have RA := RL.numl dl (by omega)
  have RB := RM.numl dm (by omega)
  clear dl dm RL RM
  generalize val BB l = A at *
  generalize val BB m = B at *
  have sA4 : bitN A ≤ 400000 := by omega
  have sB4 : bitN B ≤ 400000 := by omega
  obtain ⟨c1, hc1⟩ : ∃ c, cmpN A B = c := ⟨_, rfl⟩
  have E1 := Lib.hid hc1
  by_cases hs : 8 ≤ a2 ∧ a2 ≤ 9000
  · obtain ⟨s, rfl⟩ := Int.eq_ofNat_of_zero_le (show 0 ≤ a2 by omega)
    have s1 : 8 ≤ s := by omega
    have s2 : s ≤ 9000 := by omega
    have HR := Lib.hid (fun w => right_ok (w := w) s1 s2)
    have HSH : Hid (∀ w v, RdD w v (digs DD 1) → Calls Tryd.prog 21 #[v, .int .i64 (s : Int)] w (OneD w (digs DD (2 ^ s)))) := Lib.hid (fun w v h => by
      have := rshl_n (n := s) h (by rw [bitN_one]; omega)
      rwa [one_shl] at this)
    obtain ⟨c2, hc2⟩ : ∃ c, cmpN B (2 ^ s) = c := ⟨_, rfl⟩
    have E2 := Lib.hid hc2
    by_cases q1 : B < A
    · have HAR := Lib.hid (fun w v u (h : Num w v A) (k : Num w u B) => Exp_order h k s1 s2 q1)
      have f1 : decide (0 < c1) = true := decide_eq_true (by have := cmpN_gt' q1; omega)
      clear hs hc1 hc2
      go_enter Tryd.func5, Tryd.ntmps5
      go_wp2_with
      (first
        | (go_at_call 7; (with_reducible refine (alive12_any HT).mono ?_); rintro e w1 ⟨rfl, hb1⟩; have B1 := hb1; have a1 := RA.below hb1; have b1 := RB.below hb1; have T1 := HT.below hb1; clear RA RB HT)
        | (go_at_call 18; (with_reducible refine (HAR.out _ _ _ a1 b1).mono ?_); rintro e w2 ⟨rfl, hb2⟩; have B2 := B1.trans (hb2.mono B1.size); have a2 := a1.below hb2; have b2 := b1.below hb2; have T2 := T1.below hb2; clear a1 b1 T1)
        | (go_at_call 9; (with_reducible refine (to_n a2).mono ?_); rintro e w3 ⟨vx3, rfl, x3, hb3⟩; have B3 := B2.trans (hb3.mono B2.size); have a3 := a2.below hb3; have b3 := b2.below hb3; have T3 := T2.below hb3; clear a2 b2 T2)
        | (go_at_call 9; (with_reducible refine (to_n b3).mono ?_); rintro e w4 ⟨vy4, rfl, y4, hb4⟩; have B4 := B3.trans (hb4.mono B3.size); have a4 := a3.below hb4; have b4 := b3.below hb4; have T4 := T3.below hb4; have x4 := x3.below hb4; clear a3 b3 T3 x3)
        | (go_at_call 11; (with_reducible refine (HR.out _).mono ?_); rintro e w5 ⟨rfl, rfl⟩)
        | (go_at_call 13; (with_reducible refine (rcmp_n x4 y4 E1.out sA4).mono ?_); rintro e w6 ⟨rfl, hb6⟩; have B6 := B4.trans (hb6.mono B4.size); have a6 := a4.below hb6; have b6 := b4.below hb6; have T6 := T4.below hb6; have x6 := x4.below hb6; have y6 := y4.below hb6; clear a4 b4 T4 x4 y4)
        | fail)
      go_ret
      exact ⟨rfl, by assumption⟩
    have f1 : decide (0 < c1) = false := decide_eq_false (by have := cmpN_le' (show A ≤ B by omega); omega)
    by_cases q2 : 2 ^ s < B
    · have HAR := Lib.hid (fun w v u (h : Num w v A) (k : Num w u B) => Exp_great h k s1 s2 (by omega) q2)
      have f2 : decide (0 < c2) = true := decide_eq_true (by have := cmpN_gt' q2; omega)
      clear hs hc1 hc2
      go_enter Tryd.func5, Tryd.ntmps5
      go_wp2_with
      (first
        | (go_at_call 7; (with_reducible refine (alive12_any HT).mono ?_); rintro e w1 ⟨rfl, hb1⟩; have B1 := hb1; have a1 := RA.below hb1; have b1 := RB.below hb1; have T1 := HT.below hb1; clear RA RB HT)
        | (go_at_call 18; (with_reducible refine (HAR.out _ _ _ a1 b1).mono ?_); rintro e w2 ⟨rfl, hb2⟩; have B2 := B1.trans (hb2.mono B1.size); have a2 := a1.below hb2; have b2 := b1.below hb2; have T2 := T1.below hb2; clear a1 b1 T1)
        | (go_at_call 9; (with_reducible refine (to_n a2).mono ?_); rintro e w3 ⟨vx3, rfl, x3, hb3⟩; have B3 := B2.trans (hb3.mono B2.size); have a3 := a2.below hb3; have b3 := b2.below hb3; have T3 := T2.below hb3; clear a2 b2 T2)
        | (go_at_call 9; (with_reducible refine (to_n b3).mono ?_); rintro e w4 ⟨vy4, rfl, y4, hb4⟩; have B4 := B3.trans (hb4.mono B3.size); have a4 := a3.below hb4; have b4 := b3.below hb4; have T4 := T3.below hb4; have x4 := x3.below hb4; clear a3 b3 T3 x3)
        | (go_at_call 11; (with_reducible refine (HR.out _).mono ?_); rintro e w5 ⟨rfl, rfl⟩)
        | (go_at_call 13; (with_reducible refine (rcmp_n x4 y4 E1.out sA4).mono ?_); rintro e w6 ⟨rfl, hb6⟩; have B6 := B4.trans (hb6.mono B4.size); have a6 := a4.below hb6; have b6 := b4.below hb6; have T6 := T4.below hb6; have x6 := x4.below hb6; have y6 := y4.below hb6; clear a4 b4 T4 x4 y4)
        | (go_at_call 23; (with_reducible refine (rnum_k1).mono ?_); rintro e w7 ⟨vo7, rfl, o7, hb7⟩; have B7 := B6.trans (hb7.mono B6.size); have a7 := a6.below hb7; have b7 := b6.below hb7; have T7 := T6.below hb7; have x7 := x6.below hb7; have y7 := y6.below hb7; clear a6 b6 T6 x6 y6)
        | (go_at_call 21; (with_reducible refine (HSH.out _ _ o7).mono ?_); rintro e w8 ⟨vs8, rfl, s8, hb8⟩; have B8 := B7.trans (hb8.mono B7.size); have a8 := a7.below hb8; have b8 := b7.below hb8; have T8 := T7.below hb8; have x8 := x7.below hb8; have y8 := y7.below hb8; have o8 := o7.below hb8; clear a7 b7 T7 x7 y7 o7)
        | (go_at_call 13; (with_reducible refine (rcmp_n y8 s8 E2.out sB4).mono ?_); rintro e w9 ⟨rfl, hb9⟩; have B9 := B8.trans (hb9.mono B8.size); have a9 := a8.below hb9; have b9 := b8.below hb9; have T9 := T8.below hb9; have x9 := x8.below hb9; have y9 := y8.below hb9; have o9 := o8.below hb9; have s9 := s8.below hb9; clear a8 b8 T8 x8 y8 o8 s8)
        | fail)
      go_ret
      exact ⟨rfl, by assumption⟩
    have f2 : decide (0 < c2) = false := decide_eq_false (by have := cmpN_le' (show B ≤ 2 ^ s by omega); omega)
    have hAB : A ≤ B := by omega
    have hBS : B ≤ 2 ^ s := by omega
    have HAT := Lib.hid (fun w v u (h : Num w v A) (k : Num w u B) (hT : Tab w) => Exp_ok h k hT s1 s2 hAB hBS)
    have KO := Lib.hid (fun L H (h : ExOk A B s L H) => h.bits s2)
    have wa : IntKind.i64.wrap (4 * (s : Int)) = 4 * (s : Int) := by rw [IntKind.wrap_i64]; omega
    have wb : IntKind.i64.wrap (4 * (s : Int) + 64) = 4 * (s : Int) + 64 := by rw [IntKind.wrap_i64]; omega
    have wc : IntKind.i64.wrap ((s : Int) + 80) = (s : Int) + 80 := by rw [IntKind.wrap_i64]; omega
    have HW : A = B → Hid (∀ w v u L H, Num w v L → Num w u H → ExOk A B s L H → Calls Tryd.prog 14 #[v, u, .int .i64 (4 * (s : Int) + 64)] w fun e w' => e = .returned (.bool true) ∧ Below w.heap.size w w') := fun heq => Lib.hid (fun w v u L H h k ok => wide_ok (m := 4 * s + 64) h k ok.le (ok.wide heq) (by omega))
    have sWide : bitN 1048576 ≤ 400000 := Nat.le_trans (bitN_le.2 (show 1048576 < 2 ^ 21 by decide)) (by decide)
    obtain ⟨XA, hXA⟩ : ∃ X, A * 2 ^ 80 = X := ⟨_, rfl⟩
    obtain ⟨XB, hXB⟩ : ∃ X, B * 2 ^ 80 = X := ⟨_, rfl⟩
    have HXA : Hid (∀ w v, RdD w v (digs DD A) → Calls Tryd.prog 21 #[v, .int .i64 80] w (OneD w (digs DD XA))) := Lib.hid (fun w v h => by rw [← hXA]; exact rshl_n (n := 80) h (by omega))
    have HXB : Hid (∀ w v, RdD w v (digs DD B) → Calls Tryd.prog 21 #[v, .int .i64 80] w (OneD w (digs DD XB))) := Lib.hid (fun w v h => by rw [← hXB]; exact rshl_n (n := 80) h (by omega))
    have lA : XA ≤ 2 ^ (s + 80) := by rw [← hXA, Nat.pow_add]; exact Nat.mul_le_mul_right _ (by omega)
    have lB : XB ≤ 2 ^ (s + 80) := by rw [← hXB, Nat.pow_add]; exact Nat.mul_le_mul_right _ hBS
    have sR : ∀ X N, X ≤ 2 ^ (s + 80) → N ≤ s + 89 → bitN (refExp X (2 ^ (s + 80)) N) ≤ 20000 := fun X N hX hN => by
      have h1 := rexH_size (N := N) (Nat.two_pow_pos (s + 80)) hX N
      exact Nat.le_trans (bitN_le_pow2 (n := s + 80) (Nat.le_trans h1 (Nat.mul_le_mul_right _ (by omega)))) (by omega)
    have HRA : s ≤ 400 → Hid (∀ w v, RdD w v (digs DD XA) → Calls Tryd.prog 24 #[v, .int .i64 ((s : Int) + 80)] w fun e w' => ∃ R u, (∀ L H, ExOk A B s L H → L * 2 ^ 80 ≤ R + 1048576) ∧ bitN R ≤ 20000 ∧ e = .returned u ∧ RdD w' u (digs DD R) ∧ Below w.heap.size w w') := fun hle => Lib.hid (fun w v h => by
      refine (rexp_n (n := s + 80) h (by omega) lA).mono ?_
      rintro e w' ⟨m, u, h1, h2, rfl, h3, h4⟩
      exact ⟨_, u, fun L H ok => by rw [← hXA]; exact ex_low ok (by omega) (by omega) (by omega), sR _ _ lA (by omega), rfl, h3, h4⟩)
    have HRB : s ≤ 400 → Hid (∀ w v, RdD w v (digs DD XB) → Calls Tryd.prog 24 #[v, .int .i64 ((s : Int) + 80)] w fun e w' => ∃ R u, (∀ L H, ExOk A B s L H → R ≤ H * 2 ^ 80) ∧ bitN R ≤ 20000 ∧ e = .returned u ∧ RdD w' u (digs DD R) ∧ Below w.heap.size w w') := fun hle => Lib.hid (fun w v h => by
      refine (rexp_n (n := s + 80) h (by omega) lB).mono ?_
      rintro e w' ⟨m, u, h1, h2, rfl, h3, h4⟩
      exact ⟨_, u, fun L H ok => by rw [← hXB]; exact ex_high ok hBS, sR _ _ lB (by omega), rfl, h3, h4⟩)
    clear sR hXA hXB lA lB q1 q2
    by_cases heq : A = B
    · have f3 : (c1 == 0) = true := by rw [← hc1, heq]; simp [cmpN]
      replace HW := HW heq
      by_cases hbig : 400 < s
      · have f5 : decide (400 < (s : Int)) = true := decide_eq_true (by omega)
        clear hs hc1 hc2 HRA HRB HXA HXB heq
        go_enter Tryd.func5, Tryd.ntmps5
        go_wp2_with
      (first
        | (go_at_call 7; (with_reducible refine (alive12_any HT).mono ?_); rintro e w1 ⟨rfl, hb1⟩; have B1 := hb1; have a1 := RA.below hb1; have b1 := RB.below hb1; have T1 := HT.below hb1; clear RA RB HT)
        | (go_at_call 18; (with_reducible refine (HAT.out _ _ _ a1 b1 T1).mono ?_); rintro e w2 ⟨vl, vh, L, H, rfl, l2, h2, ok, hb2⟩; have B2 := B1.trans (hb2.mono B1.size); have a2 := a1.below hb2; have b2 := b1.below hb2; have T2 := T1.below hb2; clear a1 b1 T1; obtain ⟨bl, bh⟩ := KO.out _ _ ok)
        | (go_at_call 9; (with_reducible refine (to_n a2).mono ?_); rintro e w3 ⟨vx3, rfl, x3, hb3⟩; have B3 := B2.trans (hb3.mono B2.size); have a3 := a2.below hb3; have b3 := b2.below hb3; have T3 := T2.below hb3; have l3 := l2.below hb3; have h3 := h2.below hb3; clear a2 b2 T2 l2 h2)
        | (go_at_call 9; (with_reducible refine (to_n b3).mono ?_); rintro e w4 ⟨vy4, rfl, y4, hb4⟩; have B4 := B3.trans (hb4.mono B3.size); have a4 := a3.below hb4; have b4 := b3.below hb4; have T4 := T3.below hb4; have l4 := l3.below hb4; have h4 := h3.below hb4; have x4 := x3.below hb4; clear a3 b3 T3 l3 h3 x3)
        | (go_at_call 11; (with_reducible refine (HR.out _).mono ?_); rintro e w5 ⟨rfl, rfl⟩)
        | (go_at_call 13; (with_reducible refine (rcmp_n x4 y4 E1.out sA4).mono ?_); rintro e w6 ⟨rfl, hb6⟩; have B6 := B4.trans (hb6.mono B4.size); have a6 := a4.below hb6; have b6 := b4.below hb6; have T6 := T4.below hb6; have l6 := l4.below hb6; have h6 := h4.below hb6; have x6 := x4.below hb6; have y6 := y4.below hb6; clear a4 b4 T4 l4 h4 x4 y4)
        | (go_at_call 23; (with_reducible refine (rnum_k1).mono ?_); rintro e w7 ⟨vo7, rfl, o7, hb7⟩; have B7 := B6.trans (hb7.mono B6.size); have a7 := a6.below hb7; have b7 := b6.below hb7; have T7 := T6.below hb7; have l7 := l6.below hb7; have h7 := h6.below hb7; have x7 := x6.below hb7; have y7 := y6.below hb7; clear a6 b6 T6 l6 h6 x6 y6)
        | (go_at_call 21; (with_reducible refine (HSH.out _ _ o7).mono ?_); rintro e w8 ⟨vs8, rfl, s8, hb8⟩; have B8 := B7.trans (hb8.mono B7.size); have a8 := a7.below hb8; have b8 := b7.below hb8; have T8 := T7.below hb8; have l8 := l7.below hb8; have h8 := h7.below hb8; have x8 := x7.below hb8; have y8 := y7.below hb8; have o8 := o7.below hb8; clear a7 b7 T7 l7 h7 x7 y7 o7)
        | (go_at_call 13; (with_reducible refine (rcmp_n y8 s8 E2.out sB4).mono ?_); rintro e w9 ⟨rfl, hb9⟩; have B9 := B8.trans (hb9.mono B8.size); have a9 := a8.below hb9; have b9 := b8.below hb9; have T9 := T8.below hb9; have l9 := l8.below hb9; have h9 := h8.below hb9; have x9 := x8.below hb9; have y9 := y8.below hb9; have o9 := o8.below hb9; have s9 := s8.below hb9; clear a8 b8 T8 l8 h8 x8 y8 o8 s8)
        | (go_at_call 22; (with_reducible refine (cmp_le (l9.num (by omega)) (h9.num (by omega)) ok.le).mono ?_); rintro e w10 ⟨c3, rfl, dc3, hb10⟩; have B10 := B9.trans (hb10.mono B9.size); have a10 := a9.below hb10; have b10 := b9.below hb10; have T10 := T9.below hb10; have l10 := l9.below hb10; have h10 := h9.below hb10; have x10 := x9.below hb10; have y10 := y9.below hb10; have o10 := o9.below hb10; have s10 := s9.below hb10; clear a9 b9 T9 l9 h9 x9 y9 o9 s9)
        | (go_at_call 22; (with_reducible refine (cmp_n a10 b10 E1.out).mono ?_); rintro e w11 ⟨rfl, hb11⟩; have B11 := B10.trans (hb11.mono B10.size); have a11 := a10.below hb11; have b11 := b10.below hb11; have T11 := T10.below hb11; have l11 := l10.below hb11; have h11 := h10.below hb11; have x11 := x10.below hb11; have y11 := y10.below hb11; have o11 := o10.below hb11; have s11 := s10.below hb11; clear a10 b10 T10 l10 h10 x10 y10 o10 s10)
        | (go_at_call 14; (with_reducible refine (HW.out _ _ _ _ _ (l11.num (by omega)) (h11.num (by omega)) ok).mono ?_); rintro e w12 ⟨rfl, hb12⟩; have B12 := B11.trans (hb12.mono B11.size); have a12 := a11.below hb12; have b12 := b11.below hb12; have T12 := T11.below hb12; have l12 := l11.below hb12; have h12 := h11.below hb12; have x12 := x11.below hb12; have y12 := y11.below hb12; have o12 := o11.below hb12; have s12 := s11.below hb12; clear a11 b11 T11 l11 h11 x11 y11 o11 s11)
        | fail)
        go_ret
        exact ⟨rfl, by assumption⟩
      · have f5 : decide (400 < (s : Int)) = false := decide_eq_false (by omega)
        replace HRA := HRA (by omega)
        replace HRB := HRB (by omega)
        clear hs hc1 hc2 heq
        go_enter Tryd.func5, Tryd.ntmps5
        go_wp2_with
      (first
        | (go_at_call 7; (with_reducible refine (alive12_any HT).mono ?_); rintro e w1 ⟨rfl, hb1⟩; have B1 := hb1; have a1 := RA.below hb1; have b1 := RB.below hb1; have T1 := HT.below hb1; clear RA RB HT)
        | (go_at_call 18; (with_reducible refine (HAT.out _ _ _ a1 b1 T1).mono ?_); rintro e w2 ⟨vl, vh, L, H, rfl, l2, h2, ok, hb2⟩; have B2 := B1.trans (hb2.mono B1.size); have a2 := a1.below hb2; have b2 := b1.below hb2; have T2 := T1.below hb2; clear a1 b1 T1; obtain ⟨bl, bh⟩ := KO.out _ _ ok)
        | (go_at_call 9; (with_reducible refine (to_n a2).mono ?_); rintro e w3 ⟨vx3, rfl, x3, hb3⟩; have B3 := B2.trans (hb3.mono B2.size); have a3 := a2.below hb3; have b3 := b2.below hb3; have T3 := T2.below hb3; have l3 := l2.below hb3; have h3 := h2.below hb3; clear a2 b2 T2 l2 h2)
        | (go_at_call 9; (with_reducible refine (to_n b3).mono ?_); rintro e w4 ⟨vy4, rfl, y4, hb4⟩; have B4 := B3.trans (hb4.mono B3.size); have a4 := a3.below hb4; have b4 := b3.below hb4; have T4 := T3.below hb4; have l4 := l3.below hb4; have h4 := h3.below hb4; have x4 := x3.below hb4; clear a3 b3 T3 l3 h3 x3)
        | (go_at_call 11; (with_reducible refine (HR.out _).mono ?_); rintro e w5 ⟨rfl, rfl⟩)
        | (go_at_call 13; (with_reducible refine (rcmp_n x4 y4 E1.out sA4).mono ?_); rintro e w6 ⟨rfl, hb6⟩; have B6 := B4.trans (hb6.mono B4.size); have a6 := a4.below hb6; have b6 := b4.below hb6; have T6 := T4.below hb6; have l6 := l4.below hb6; have h6 := h4.below hb6; have x6 := x4.below hb6; have y6 := y4.below hb6; clear a4 b4 T4 l4 h4 x4 y4)
        | (go_at_call 23; (with_reducible refine (rnum_k1).mono ?_); rintro e w7 ⟨vo7, rfl, o7, hb7⟩; have B7 := B6.trans (hb7.mono B6.size); have a7 := a6.below hb7; have b7 := b6.below hb7; have T7 := T6.below hb7; have l7 := l6.below hb7; have h7 := h6.below hb7; have x7 := x6.below hb7; have y7 := y6.below hb7; clear a6 b6 T6 l6 h6 x6 y6)
        | (go_at_call 21; (with_reducible refine (HSH.out _ _ o7).mono ?_); rintro e w8 ⟨vs8, rfl, s8, hb8⟩; have B8 := B7.trans (hb8.mono B7.size); have a8 := a7.below hb8; have b8 := b7.below hb8; have T8 := T7.below hb8; have l8 := l7.below hb8; have h8 := h7.below hb8; have x8 := x7.below hb8; have y8 := y7.below hb8; have o8 := o7.below hb8; clear a7 b7 T7 l7 h7 x7 y7 o7)
        | (go_at_call 13; (with_reducible refine (rcmp_n y8 s8 E2.out sB4).mono ?_); rintro e w9 ⟨rfl, hb9⟩; have B9 := B8.trans (hb9.mono B8.size); have a9 := a8.below hb9; have b9 := b8.below hb9; have T9 := T8.below hb9; have l9 := l8.below hb9; have h9 := h8.below hb9; have x9 := x8.below hb9; have y9 := y8.below hb9; have o9 := o8.below hb9; have s9 := s8.below hb9; clear a8 b8 T8 l8 h8 x8 y8 o8 s8)
        | (go_at_call 22; (with_reducible refine (cmp_le (l9.num (by omega)) (h9.num (by omega)) ok.le).mono ?_); rintro e w10 ⟨c3, rfl, dc3, hb10⟩; have B10 := B9.trans (hb10.mono B9.size); have a10 := a9.below hb10; have b10 := b9.below hb10; have T10 := T9.below hb10; have l10 := l9.below hb10; have h10 := h9.below hb10; have x10 := x9.below hb10; have y10 := y9.below hb10; have o10 := o9.below hb10; have s10 := s9.below hb10; clear a9 b9 T9 l9 h9 x9 y9 o9 s9)
        | (go_at_call 22; (with_reducible refine (cmp_n a10 b10 E1.out).mono ?_); rintro e w11 ⟨rfl, hb11⟩; have B11 := B10.trans (hb11.mono B10.size); have a11 := a10.below hb11; have b11 := b10.below hb11; have T11 := T10.below hb11; have l11 := l10.below hb11; have h11 := h10.below hb11; have x11 := x10.below hb11; have y11 := y10.below hb11; have o11 := o10.below hb11; have s11 := s10.below hb11; clear a10 b10 T10 l10 h10 x10 y10 o10 s10)
        | (go_at_call 14; (with_reducible refine (HW.out _ _ _ _ _ (l11.num (by omega)) (h11.num (by omega)) ok).mono ?_); rintro e w12 ⟨rfl, hb12⟩; have B12 := B11.trans (hb12.mono B11.size); have a12 := a11.below hb12; have b12 := b11.below hb12; have T12 := T11.below hb12; have l12 := l11.below hb12; have h12 := h11.below hb12; have x12 := x11.below hb12; have y12 := y11.below hb12; have o12 := o11.below hb12; have s12 := s11.below hb12; clear a11 b11 T11 l11 h11 x11 y11 o11 s11)
        | (go_at_call 21; (with_reducible refine (HXA.out _ _ x12).mono ?_); rintro e w13 ⟨vp13, rfl, p13, hb13⟩; have B13 := B12.trans (hb13.mono B12.size); have a13 := a12.below hb13; have b13 := b12.below hb13; have T13 := T12.below hb13; have l13 := l12.below hb13; have h13 := h12.below hb13; have x13 := x12.below hb13; have y13 := y12.below hb13; have o13 := o12.below hb13; have s13 := s12.below hb13; clear a12 b12 T12 l12 h12 x12 y12 o12 s12)
        | (go_at_call 24; (with_reducible refine (HRA.out _ _ p13).mono ?_); rintro e w14 ⟨R1, u1, k1, sR1, rfl, r14, hb14⟩; have B14 := B13.trans (hb14.mono B13.size); have a14 := a13.below hb14; have b14 := b13.below hb14; have T14 := T13.below hb14; have l14 := l13.below hb14; have h14 := h13.below hb14; have x14 := x13.below hb14; have y14 := y13.below hb14; have o14 := o13.below hb14; have s14 := s13.below hb14; have p14 := p13.below hb14; clear a13 b13 T13 l13 h13 x13 y13 o13 s13 p13)
        | (go_at_call 21; (with_reducible refine (HXB.out _ _ y14).mono ?_); rintro e w15 ⟨vq15, rfl, q15, hb15⟩; have B15 := B14.trans (hb15.mono B14.size); have a15 := a14.below hb15; have b15 := b14.below hb15; have T15 := T14.below hb15; have l15 := l14.below hb15; have h15 := h14.below hb15; have x15 := x14.below hb15; have y15 := y14.below hb15; have o15 := o14.below hb15; have s15 := s14.below hb15; have p15 := p14.below hb15; have r15 := r14.below hb15; clear a14 b14 T14 l14 h14 x14 y14 o14 s14 p14 r14)
        | (go_at_call 24; (with_reducible refine (HRB.out _ _ q15).mono ?_); rintro e w16 ⟨R2, u2, k2, sR2, rfl, g16, hb16⟩; have B16 := B15.trans (hb16.mono B15.size); have a16 := a15.below hb16; have b16 := b15.below hb16; have T16 := T15.below hb16; have l16 := l15.below hb16; have h16 := h15.below hb16; have x16 := x15.below hb16; have y16 := y15.below hb16; have o16 := o15.below hb16; have s16 := s15.below hb16; have p16 := p15.below hb16; have r16 := r15.below hb16; have q16 := q15.below hb16; clear a15 b15 T15 l15 h15 x15 y15 o15 s15 p15 r15 q15)
        | (go_at_call 9; (with_reducible refine (to_n (l16.num (by omega))).mono ?_); rintro e w17 ⟨vc17, rfl, c17, hb17⟩; have B17 := B16.trans (hb17.mono B16.size); have a17 := a16.below hb17; have b17 := b16.below hb17; have T17 := T16.below hb17; have l17 := l16.below hb17; have h17 := h16.below hb17; have x17 := x16.below hb17; have y17 := y16.below hb17; have o17 := o16.below hb17; have s17 := s16.below hb17; have p17 := p16.below hb17; have r17 := r16.below hb17; have q17 := q16.below hb17; have g17 := g16.below hb17; clear a16 b16 T16 l16 h16 x16 y16 o16 s16 p16 r16 q16 g16)
        | (go_at_call 21; (with_reducible refine (rshl_80 c17 (by omega)).mono ?_); rintro e w18 ⟨vi18, rfl, i18, hb18⟩; have B18 := B17.trans (hb18.mono B17.size); have a18 := a17.below hb18; have b18 := b17.below hb18; have T18 := T17.below hb18; have l18 := l17.below hb18; have h18 := h17.below hb18; have x18 := x17.below hb18; have y18 := y17.below hb18; have o18 := o17.below hb18; have s18 := s17.below hb18; have p18 := p17.below hb18; have r18 := r17.below hb18; have q18 := q17.below hb18; have g18 := g17.below hb18; have c18 := c17.below hb18; clear a17 b17 T17 l17 h17 x17 y17 o17 s17 p17 r17 q17 g17 c17)
        | (go_at_call 9; (with_reducible refine (to_n (h18.num (by omega))).mono ?_); rintro e w19 ⟨vd19, rfl, d19, hb19⟩; have B19 := B18.trans (hb19.mono B18.size); have a19 := a18.below hb19; have b19 := b18.below hb19; have T19 := T18.below hb19; have l19 := l18.below hb19; have h19 := h18.below hb19; have x19 := x18.below hb19; have y19 := y18.below hb19; have o19 := o18.below hb19; have s19 := s18.below hb19; have p19 := p18.below hb19; have r19 := r18.below hb19; have q19 := q18.below hb19; have g19 := g18.below hb19; have c19 := c18.below hb19; have i19 := i18.below hb19; clear a18 b18 T18 l18 h18 x18 y18 o18 s18 p18 r18 q18 g18 c18 i18)
        | (go_at_call 21; (with_reducible refine (rshl_80 d19 (by omega)).mono ?_); rintro e w20 ⟨vj20, rfl, j20, hb20⟩; have B20 := B19.trans (hb20.mono B19.size); have a20 := a19.below hb20; have b20 := b19.below hb20; have T20 := T19.below hb20; have l20 := l19.below hb20; have h20 := h19.below hb20; have x20 := x19.below hb20; have y20 := y19.below hb20; have o20 := o19.below hb20; have s20 := s19.below hb20; have p20 := p19.below hb20; have r20 := r19.below hb20; have q20 := q19.below hb20; have g20 := g19.below hb20; have c20 := c19.below hb20; have i20 := i19.below hb20; have d20 := d19.below hb20; clear a19 b19 T19 l19 h19 x19 y19 o19 s19 p19 r19 q19 g19 c19 i19 d19)
        | (go_at_call 25; (with_reducible refine (wide_n).mono ?_); rintro e w21 ⟨vz21, rfl, z21, hb21⟩; have B21 := B20.trans (hb21.mono B20.size); have a21 := a20.below hb21; have b21 := b20.below hb21; have T21 := T20.below hb21; have l21 := l20.below hb21; have h21 := h20.below hb21; have x21 := x20.below hb21; have y21 := y20.below hb21; have o21 := o20.below hb21; have s21 := s20.below hb21; have p21 := p20.below hb21; have r21 := r20.below hb21; have q21 := q20.below hb21; have g21 := g20.below hb21; have c21 := c20.below hb21; have i21 := i20.below hb21; have d21 := d20.below hb21; have j21 := j20.below hb21; clear a20 b20 T20 l20 h20 x20 y20 o20 s20 p20 r20 q20 g20 c20 i20 d20 j20)
        | (go_at_call 10; (with_reducible refine (radd_n r21 z21 rfl (by omega) sWide).mono ?_); rintro e w22 ⟨vt22, rfl, t22, hb22⟩; have B22 := B21.trans (hb22.mono B21.size); have a22 := a21.below hb22; have b22 := b21.below hb22; have T22 := T21.below hb22; have l22 := l21.below hb22; have h22 := h21.below hb22; have x22 := x21.below hb22; have y22 := y21.below hb22; have o22 := o21.below hb22; have s22 := s21.below hb22; have p22 := p21.below hb22; have r22 := r21.below hb22; have q22 := q21.below hb22; have g22 := g21.below hb22; have c22 := c21.below hb22; have i22 := i21.below hb22; have d22 := d21.below hb22; have j22 := j21.below hb22; have z22 := z21.below hb22; clear a21 b21 T21 l21 h21 x21 y21 o21 s21 p21 r21 q21 g21 c21 i21 d21 j21 z21)
        | (go_at_call 13; (with_reducible refine (rcmp_le i22 t22 (k1 _ _ ok) (Nat.le_trans (bitN_shl _ _) (by omega))).mono ?_); rintro e w23 ⟨c5, rfl, dc5, hb23⟩; have B23 := B22.trans (hb23.mono B22.size); have a23 := a22.below hb23; have b23 := b22.below hb23; have T23 := T22.below hb23; have l23 := l22.below hb23; have h23 := h22.below hb23; have x23 := x22.below hb23; have y23 := y22.below hb23; have o23 := o22.below hb23; have s23 := s22.below hb23; have p23 := p22.below hb23; have r23 := r22.below hb23; have q23 := q22.below hb23; have g23 := g22.below hb23; have c23 := c22.below hb23; have i23 := i22.below hb23; have d23 := d22.below hb23; have j23 := j22.below hb23; have z23 := z22.below hb23; have t23 := t22.below hb23; clear a22 b22 T22 l22 h22 x22 y22 o22 s22 p22 r22 q22 g22 c22 i22 d22 j22 z22 t22)
        | (go_at_call 13; (with_reducible refine (rcmp_le g23 j23 (k2 _ _ ok) (by omega)).mono ?_); rintro e w24 ⟨c6, rfl, dc6, hb24⟩; have B24 := B23.trans (hb24.mono B23.size); have a24 := a23.below hb24; have b24 := b23.below hb24; have T24 := T23.below hb24; have l24 := l23.below hb24; have h24 := h23.below hb24; have x24 := x23.below hb24; have y24 := y23.below hb24; have o24 := o23.below hb24; have s24 := s23.below hb24; have p24 := p23.below hb24; have r24 := r23.below hb24; have q24 := q23.below hb24; have g24 := g23.below hb24; have c24 := c23.below hb24; have i24 := i23.below hb24; have d24 := d23.below hb24; have j24 := j23.below hb24; have z24 := z23.below hb24; have t24 := t23.below hb24; clear a23 b23 T23 l23 h23 x23 y23 o23 s23 p23 r23 q23 g23 c23 i23 d23 j23 z23 t23)
        | fail)
        go_ret
        exact ⟨rfl, by assumption⟩
    · have f3 : (c1 == 0) = false := beq_false_of_ne (by
        rw [← hc1]
        unfold cmpN
        rw [if_neg heq]
        split <;> decide)
      clear HW
      by_cases hbig : 400 < s
      · have f5 : decide (400 < (s : Int)) = true := decide_eq_true (by omega)
        clear hs hc1 hc2 HRA HRB HXA HXB heq
        go_enter Tryd.func5, Tryd.ntmps5
        go_wp2_with
      (first
        | (go_at_call 7; (with_reducible refine (alive12_any HT).mono ?_); rintro e w1 ⟨rfl, hb1⟩; have B1 := hb1; have a1 := RA.below hb1; have b1 := RB.below hb1; have T1 := HT.below hb1; clear RA RB HT)
        | (go_at_call 18; (with_reducible refine (HAT.out _ _ _ a1 b1 T1).mono ?_); rintro e w2 ⟨vl, vh, L, H, rfl, l2, h2, ok, hb2⟩; have B2 := B1.trans (hb2.mono B1.size); have a2 := a1.below hb2; have b2 := b1.below hb2; have T2 := T1.below hb2; clear a1 b1 T1; obtain ⟨bl, bh⟩ := KO.out _ _ ok)
        | (go_at_call 9; (with_reducible refine (to_n a2).mono ?_); rintro e w3 ⟨vx3, rfl, x3, hb3⟩; have B3 := B2.trans (hb3.mono B2.size); have a3 := a2.below hb3; have b3 := b2.below hb3; have T3 := T2.below hb3; have l3 := l2.below hb3; have h3 := h2.below hb3; clear a2 b2 T2 l2 h2)
        | (go_at_call 9; (with_reducible refine (to_n b3).mono ?_); rintro e w4 ⟨vy4, rfl, y4, hb4⟩; have B4 := B3.trans (hb4.mono B3.size); have a4 := a3.below hb4; have b4 := b3.below hb4; have T4 := T3.below hb4; have l4 := l3.below hb4; have h4 := h3.below hb4; have x4 := x3.below hb4; clear a3 b3 T3 l3 h3 x3)
        | (go_at_call 11; (with_reducible refine (HR.out _).mono ?_); rintro e w5 ⟨rfl, rfl⟩)
        | (go_at_call 13; (with_reducible refine (rcmp_n x4 y4 E1.out sA4).mono ?_); rintro e w6 ⟨rfl, hb6⟩; have B6 := B4.trans (hb6.mono B4.size); have a6 := a4.below hb6; have b6 := b4.below hb6; have T6 := T4.below hb6; have l6 := l4.below hb6; have h6 := h4.below hb6; have x6 := x4.below hb6; have y6 := y4.below hb6; clear a4 b4 T4 l4 h4 x4 y4)
        | (go_at_call 23; (with_reducible refine (rnum_k1).mono ?_); rintro e w7 ⟨vo7, rfl, o7, hb7⟩; have B7 := B6.trans (hb7.mono B6.size); have a7 := a6.below hb7; have b7 := b6.below hb7; have T7 := T6.below hb7; have l7 := l6.below hb7; have h7 := h6.below hb7; have x7 := x6.below hb7; have y7 := y6.below hb7; clear a6 b6 T6 l6 h6 x6 y6)
        | (go_at_call 21; (with_reducible refine (HSH.out _ _ o7).mono ?_); rintro e w8 ⟨vs8, rfl, s8, hb8⟩; have B8 := B7.trans (hb8.mono B7.size); have a8 := a7.below hb8; have b8 := b7.below hb8; have T8 := T7.below hb8; have l8 := l7.below hb8; have h8 := h7.below hb8; have x8 := x7.below hb8; have y8 := y7.below hb8; have o8 := o7.below hb8; clear a7 b7 T7 l7 h7 x7 y7 o7)
        | (go_at_call 13; (with_reducible refine (rcmp_n y8 s8 E2.out sB4).mono ?_); rintro e w9 ⟨rfl, hb9⟩; have B9 := B8.trans (hb9.mono B8.size); have a9 := a8.below hb9; have b9 := b8.below hb9; have T9 := T8.below hb9; have l9 := l8.below hb9; have h9 := h8.below hb9; have x9 := x8.below hb9; have y9 := y8.below hb9; have o9 := o8.below hb9; have s9 := s8.below hb9; clear a8 b8 T8 l8 h8 x8 y8 o8 s8)
        | (go_at_call 22; (with_reducible refine (cmp_le (l9.num (by omega)) (h9.num (by omega)) ok.le).mono ?_); rintro e w10 ⟨c3, rfl, dc3, hb10⟩; have B10 := B9.trans (hb10.mono B9.size); have a10 := a9.below hb10; have b10 := b9.below hb10; have T10 := T9.below hb10; have l10 := l9.below hb10; have h10 := h9.below hb10; have x10 := x9.below hb10; have y10 := y9.below hb10; have o10 := o9.below hb10; have s10 := s9.below hb10; clear a9 b9 T9 l9 h9 x9 y9 o9 s9)
        | (go_at_call 22; (with_reducible refine (cmp_n a10 b10 E1.out).mono ?_); rintro e w11 ⟨rfl, hb11⟩; have B11 := B10.trans (hb11.mono B10.size); have a11 := a10.below hb11; have b11 := b10.below hb11; have T11 := T10.below hb11; have l11 := l10.below hb11; have h11 := h10.below hb11; have x11 := x10.below hb11; have y11 := y10.below hb11; have o11 := o10.below hb11; have s11 := s10.below hb11; clear a10 b10 T10 l10 h10 x10 y10 o10 s10)
        | fail)
        go_ret
        exact ⟨rfl, by assumption⟩
      · have f5 : decide (400 < (s : Int)) = false := decide_eq_false (by omega)
        replace HRA := HRA (by omega)
        replace HRB := HRB (by omega)
        clear hs hc1 hc2 heq
        go_enter Tryd.func5, Tryd.ntmps5
        go_wp2_with
      (first
        | (go_at_call 7; (with_reducible refine (alive12_any HT).mono ?_); rintro e w1 ⟨rfl, hb1⟩; have B1 := hb1; have a1 := RA.below hb1; have b1 := RB.below hb1; have T1 := HT.below hb1; clear RA RB HT)
        | (go_at_call 18; (with_reducible refine (HAT.out _ _ _ a1 b1 T1).mono ?_); rintro e w2 ⟨vl, vh, L, H, rfl, l2, h2, ok, hb2⟩; have B2 := B1.trans (hb2.mono B1.size); have a2 := a1.below hb2; have b2 := b1.below hb2; have T2 := T1.below hb2; clear a1 b1 T1; obtain ⟨bl, bh⟩ := KO.out _ _ ok)
        | (go_at_call 9; (with_reducible refine (to_n a2).mono ?_); rintro e w3 ⟨vx3, rfl, x3, hb3⟩; have B3 := B2.trans (hb3.mono B2.size); have a3 := a2.below hb3; have b3 := b2.below hb3; have T3 := T2.below hb3; have l3 := l2.below hb3; have h3 := h2.below hb3; clear a2 b2 T2 l2 h2)
        | (go_at_call 9; (with_reducible refine (to_n b3).mono ?_); rintro e w4 ⟨vy4, rfl, y4, hb4⟩; have B4 := B3.trans (hb4.mono B3.size); have a4 := a3.below hb4; have b4 := b3.below hb4; have T4 := T3.below hb4; have l4 := l3.below hb4; have h4 := h3.below hb4; have x4 := x3.below hb4; clear a3 b3 T3 l3 h3 x3)
        | (go_at_call 11; (with_reducible refine (HR.out _).mono ?_); rintro e w5 ⟨rfl, rfl⟩)
        | (go_at_call 13; (with_reducible refine (rcmp_n x4 y4 E1.out sA4).mono ?_); rintro e w6 ⟨rfl, hb6⟩; have B6 := B4.trans (hb6.mono B4.size); have a6 := a4.below hb6; have b6 := b4.below hb6; have T6 := T4.below hb6; have l6 := l4.below hb6; have h6 := h4.below hb6; have x6 := x4.below hb6; have y6 := y4.below hb6; clear a4 b4 T4 l4 h4 x4 y4)
        | (go_at_call 23; (with_reducible refine (rnum_k1).mono ?_); rintro e w7 ⟨vo7, rfl, o7, hb7⟩; have B7 := B6.trans (hb7.mono B6.size); have a7 := a6.below hb7; have b7 := b6.below hb7; have T7 := T6.below hb7; have l7 := l6.below hb7; have h7 := h6.below hb7; have x7 := x6.below hb7; have y7 := y6.below hb7; clear a6 b6 T6 l6 h6 x6 y6)
        | (go_at_call 21; (with_reducible refine (HSH.out _ _ o7).mono ?_); rintro e w8 ⟨vs8, rfl, s8, hb8⟩; have B8 := B7.trans (hb8.mono B7.size); have a8 := a7.below hb8; have b8 := b7.below hb8; have T8 := T7.below hb8; have l8 := l7.below hb8; have h8 := h7.below hb8; have x8 := x7.below hb8; have y8 := y7.below hb8; have o8 := o7.below hb8; clear a7 b7 T7 l7 h7 x7 y7 o7)
        | (go_at_call 13; (with_reducible refine (rcmp_n y8 s8 E2.out sB4).mono ?_); rintro e w9 ⟨rfl, hb9⟩; have B9 := B8.trans (hb9.mono B8.size); have a9 := a8.below hb9; have b9 := b8.below hb9; have T9 := T8.below hb9; have l9 := l8.below hb9; have h9 := h8.below hb9; have x9 := x8.below hb9; have y9 := y8.below hb9; have o9 := o8.below hb9; have s9 := s8.below hb9; clear a8 b8 T8 l8 h8 x8 y8 o8 s8)
        | (go_at_call 22; (with_reducible refine (cmp_le (l9.num (by omega)) (h9.num (by omega)) ok.le).mono ?_); rintro e w10 ⟨c3, rfl, dc3, hb10⟩; have B10 := B9.trans (hb10.mono B9.size); have a10 := a9.below hb10; have b10 := b9.below hb10; have T10 := T9.below hb10; have l10 := l9.below hb10; have h10 := h9.below hb10; have x10 := x9.below hb10; have y10 := y9.below hb10; have o10 := o9.below hb10; have s10 := s9.below hb10; clear a9 b9 T9 l9 h9 x9 y9 o9 s9)
        | (go_at_call 22; (with_reducible refine (cmp_n a10 b10 E1.out).mono ?_); rintro e w11 ⟨rfl, hb11⟩; have B11 := B10.trans (hb11.mono B10.size); have a11 := a10.below hb11; have b11 := b10.below hb11; have T11 := T10.below hb11; have l11 := l10.below hb11; have h11 := h10.below hb11; have x11 := x10.below hb11; have y11 := y10.below hb11; have o11 := o10.below hb11; have s11 := s10.below hb11; clear a10 b10 T10 l10 h10 x10 y10 o10 s10)
        | (go_at_call 21; (with_reducible refine (HXA.out _ _ x11).mono ?_); rintro e w12 ⟨vp12, rfl, p12, hb12⟩; have B12 := B11.trans (hb12.mono B11.size); have a12 := a11.below hb12; have b12 := b11.below hb12; have T12 := T11.below hb12; have l12 := l11.below hb12; have h12 := h11.below hb12; have x12 := x11.below hb12; have y12 := y11.below hb12; have o12 := o11.below hb12; have s12 := s11.below hb12; clear a11 b11 T11 l11 h11 x11 y11 o11 s11)
        | (go_at_call 24; (with_reducible refine (HRA.out _ _ p12).mono ?_); rintro e w13 ⟨R1, u1, k1, sR1, rfl, r13, hb13⟩; have B13 := B12.trans (hb13.mono B12.size); have a13 := a12.below hb13; have b13 := b12.below hb13; have T13 := T12.below hb13; have l13 := l12.below hb13; have h13 := h12.below hb13; have x13 := x12.below hb13; have y13 := y12.below hb13; have o13 := o12.below hb13; have s13 := s12.below hb13; have p13 := p12.below hb13; clear a12 b12 T12 l12 h12 x12 y12 o12 s12 p12)
        | (go_at_call 21; (with_reducible refine (HXB.out _ _ y13).mono ?_); rintro e w14 ⟨vq14, rfl, q14, hb14⟩; have B14 := B13.trans (hb14.mono B13.size); have a14 := a13.below hb14; have b14 := b13.below hb14; have T14 := T13.below hb14; have l14 := l13.below hb14; have h14 := h13.below hb14; have x14 := x13.below hb14; have y14 := y13.below hb14; have o14 := o13.below hb14; have s14 := s13.below hb14; have p14 := p13.below hb14; have r14 := r13.below hb14; clear a13 b13 T13 l13 h13 x13 y13 o13 s13 p13 r13)
        | (go_at_call 24; (with_reducible refine (HRB.out _ _ q14).mono ?_); rintro e w15 ⟨R2, u2, k2, sR2, rfl, g15, hb15⟩; have B15 := B14.trans (hb15.mono B14.size); have a15 := a14.below hb15; have b15 := b14.below hb15; have T15 := T14.below hb15; have l15 := l14.below hb15; have h15 := h14.below hb15; have x15 := x14.below hb15; have y15 := y14.below hb15; have o15 := o14.below hb15; have s15 := s14.below hb15; have p15 := p14.below hb15; have r15 := r14.below hb15; have q15 := q14.below hb15; clear a14 b14 T14 l14 h14 x14 y14 o14 s14 p14 r14 q14)
        | (go_at_call 9; (with_reducible refine (to_n (l15.num (by omega))).mono ?_); rintro e w16 ⟨vc16, rfl, c16, hb16⟩; have B16 := B15.trans (hb16.mono B15.size); have a16 := a15.below hb16; have b16 := b15.below hb16; have T16 := T15.below hb16; have l16 := l15.below hb16; have h16 := h15.below hb16; have x16 := x15.below hb16; have y16 := y15.below hb16; have o16 := o15.below hb16; have s16 := s15.below hb16; have p16 := p15.below hb16; have r16 := r15.below hb16; have q16 := q15.below hb16; have g16 := g15.below hb16; clear a15 b15 T15 l15 h15 x15 y15 o15 s15 p15 r15 q15 g15)
        | (go_at_call 21; (with_reducible refine (rshl_80 c16 (by omega)).mono ?_); rintro e w17 ⟨vi17, rfl, i17, hb17⟩; have B17 := B16.trans (hb17.mono B16.size); have a17 := a16.below hb17; have b17 := b16.below hb17; have T17 := T16.below hb17; have l17 := l16.below hb17; have h17 := h16.below hb17; have x17 := x16.below hb17; have y17 := y16.below hb17; have o17 := o16.below hb17; have s17 := s16.below hb17; have p17 := p16.below hb17; have r17 := r16.below hb17; have q17 := q16.below hb17; have g17 := g16.below hb17; have c17 := c16.below hb17; clear a16 b16 T16 l16 h16 x16 y16 o16 s16 p16 r16 q16 g16 c16)
        | (go_at_call 9; (with_reducible refine (to_n (h17.num (by omega))).mono ?_); rintro e w18 ⟨vd18, rfl, d18, hb18⟩; have B18 := B17.trans (hb18.mono B17.size); have a18 := a17.below hb18; have b18 := b17.below hb18; have T18 := T17.below hb18; have l18 := l17.below hb18; have h18 := h17.below hb18; have x18 := x17.below hb18; have y18 := y17.below hb18; have o18 := o17.below hb18; have s18 := s17.below hb18; have p18 := p17.below hb18; have r18 := r17.below hb18; have q18 := q17.below hb18; have g18 := g17.below hb18; have c18 := c17.below hb18; have i18 := i17.below hb18; clear a17 b17 T17 l17 h17 x17 y17 o17 s17 p17 r17 q17 g17 c17 i17)
        | (go_at_call 21; (with_reducible refine (rshl_80 d18 (by omega)).mono ?_); rintro e w19 ⟨vj19, rfl, j19, hb19⟩; have B19 := B18.trans (hb19.mono B18.size); have a19 := a18.below hb19; have b19 := b18.below hb19; have T19 := T18.below hb19; have l19 := l18.below hb19; have h19 := h18.below hb19; have x19 := x18.below hb19; have y19 := y18.below hb19; have o19 := o18.below hb19; have s19 := s18.below hb19; have p19 := p18.below hb19; have r19 := r18.below hb19; have q19 := q18.below hb19; have g19 := g18.below hb19; have c19 := c18.below hb19; have i19 := i18.below hb19; have d19 := d18.below hb19; clear a18 b18 T18 l18 h18 x18 y18 o18 s18 p18 r18 q18 g18 c18 i18 d18)
        | (go_at_call 25; (with_reducible refine (wide_n).mono ?_); rintro e w20 ⟨vz20, rfl, z20, hb20⟩; have B20 := B19.trans (hb20.mono B19.size); have a20 := a19.below hb20; have b20 := b19.below hb20; have T20 := T19.below hb20; have l20 := l19.below hb20; have h20 := h19.below hb20; have x20 := x19.below hb20; have y20 := y19.below hb20; have o20 := o19.below hb20; have s20 := s19.below hb20; have p20 := p19.below hb20; have r20 := r19.below hb20; have q20 := q19.below hb20; have g20 := g19.below hb20; have c20 := c19.below hb20; have i20 := i19.below hb20; have d20 := d19.below hb20; have j20 := j19.below hb20; clear a19 b19 T19 l19 h19 x19 y19 o19 s19 p19 r19 q19 g19 c19 i19 d19 j19)
        | (go_at_call 10; (with_reducible refine (radd_n r20 z20 rfl (by omega) sWide).mono ?_); rintro e w21 ⟨vt21, rfl, t21, hb21⟩; have B21 := B20.trans (hb21.mono B20.size); have a21 := a20.below hb21; have b21 := b20.below hb21; have T21 := T20.below hb21; have l21 := l20.below hb21; have h21 := h20.below hb21; have x21 := x20.below hb21; have y21 := y20.below hb21; have o21 := o20.below hb21; have s21 := s20.below hb21; have p21 := p20.below hb21; have r21 := r20.below hb21; have q21 := q20.below hb21; have g21 := g20.below hb21; have c21 := c20.below hb21; have i21 := i20.below hb21; have d21 := d20.below hb21; have j21 := j20.below hb21; have z21 := z20.below hb21; clear a20 b20 T20 l20 h20 x20 y20 o20 s20 p20 r20 q20 g20 c20 i20 d20 j20 z20)
        | (go_at_call 13; (with_reducible refine (rcmp_le i21 t21 (k1 _ _ ok) (Nat.le_trans (bitN_shl _ _) (by omega))).mono ?_); rintro e w22 ⟨c5, rfl, dc5, hb22⟩; have B22 := B21.trans (hb22.mono B21.size); have a22 := a21.below hb22; have b22 := b21.below hb22; have T22 := T21.below hb22; have l22 := l21.below hb22; have h22 := h21.below hb22; have x22 := x21.below hb22; have y22 := y21.below hb22; have o22 := o21.below hb22; have s22 := s21.below hb22; have p22 := p21.below hb22; have r22 := r21.below hb22; have q22 := q21.below hb22; have g22 := g21.below hb22; have c22 := c21.below hb22; have i22 := i21.below hb22; have d22 := d21.below hb22; have j22 := j21.below hb22; have z22 := z21.below hb22; have t22 := t21.below hb22; clear a21 b21 T21 l21 h21 x21 y21 o21 s21 p21 r21 q21 g21 c21 i21 d21 j21 z21 t21)
        | (go_at_call 13; (with_reducible refine (rcmp_le g22 j22 (k2 _ _ ok) (by omega)).mono ?_); rintro e w23 ⟨c6, rfl, dc6, hb23⟩; have B23 := B22.trans (hb23.mono B22.size); have a23 := a22.below hb23; have b23 := b22.below hb23; have T23 := T22.below hb23; have l23 := l22.below hb23; have h23 := h22.below hb23; have x23 := x22.below hb23; have y23 := y22.below hb23; have o23 := o22.below hb23; have s23 := s22.below hb23; have p23 := p22.below hb23; have r23 := r22.below hb23; have q23 := q22.below hb23; have g23 := g22.below hb23; have c23 := c22.below hb23; have i23 := i22.below hb23; have d23 := d22.below hb23; have j23 := j22.below hb23; have z23 := z22.below hb23; have t23 := t22.below hb23; clear a22 b22 T22 l22 h22 x22 y22 o22 s22 p22 r22 q22 g22 c22 i22 d22 j22 z22 t22)
        | fail)
        go_ret
        exact ⟨rfl, by assumption⟩
  · have HAR := Lib.hid (fun w v u (h : Num w v A) (k : Num w u B) => Exp_scale (s := a2) h k (by omega))
    have HR := Lib.hid (fun w => right_no (w := w) (s := a2) (by omega))
    clear hs hc1
    go_enter Tryd.func5, Tryd.ntmps5
    go_wp2_with
    (first
      | (go_at_call 7; (with_reducible refine (alive12_any HT).mono ?_); rintro e w1 ⟨rfl, hb1⟩; have B1 := hb1; have a1 := RA.below hb1; have b1 := RB.below hb1; have T1 := HT.below hb1; clear RA RB HT)
      | (go_at_call 18; (with_reducible refine (HAR.out _ _ _ a1 b1).mono ?_); rintro e w2 ⟨rfl, hb2⟩; have B2 := B1.trans (hb2.mono B1.size); have a2 := a1.below hb2; have b2 := b1.below hb2; have T2 := T1.below hb2; clear a1 b1 T1)
      | (go_at_call 9; (with_reducible refine (to_n a2).mono ?_); rintro e w3 ⟨vx3, rfl, x3, hb3⟩; have B3 := B2.trans (hb3.mono B2.size); have a3 := a2.below hb3; have b3 := b2.below hb3; have T3 := T2.below hb3; clear a2 b2 T2)
      | (go_at_call 9; (with_reducible refine (to_n b3).mono ?_); rintro e w4 ⟨vy4, rfl, y4, hb4⟩; have B4 := B3.trans (hb4.mono B3.size); have a4 := a3.below hb4; have b4 := b3.below hb4; have T4 := T3.below hb4; have x4 := x3.below hb4; clear a3 b3 T3 x3)
      | (go_at_call 11; (with_reducible refine (HR.out _).mono ?_); rintro e w5 ⟨rfl, rfl⟩)
      | fail)
    go_ret
    exact ⟨rfl, by assumption⟩
end Go.Proofs.YtecgimdgmilcbaaDoor.SExp
