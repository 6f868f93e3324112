/- Chapter 12's wide() and holds() by their contracts. Conditions: the numbers are short. -/
import Derived.Test.YtecgimdgmilcbaaDoorSer6
import Derived.Test.YtecgimdgmilcbaaDoorSRef2
namespace Go.Proofs.YtecgimdgmilcbaaDoor
set_option maxRecDepth 100000
open Go.RowKit Go.ChangeShapes Go.WideShapes
set_option linter.unusedVariables false

theorem nsmall_s {w : World} {v : Value} {A : Nat} (h : RdN w v (digs BB A)) (hA : A < BB) : Calls Tryd.prog 41 #[v] w (fun e w' => e = .returned (.tuple #[L64 A, .bool true]) ∧ Below w.heap.size w w') := by
  have hl : (digs BB A).length ≤ 1 := by
    by_cases h0 : A = 0
    · rw [h0, digs_zero]; exact Nat.zero_le _
    · rw [digs_pos BB_two (by omega), show A / BB = 0 from Nat.div_eq_of_lt hA, digs_zero]; exact Nat.le_refl _
  have hs : strip (digs BB A) = digs BB A := by
    have := strip_eq BB_two (dig_digs BB_two A)
    rw [val_digs BB_two] at this; exact this
  have hv : (digs BB A).getD 0 0 = A := by
    by_cases h0 : A = 0
    · rw [h0, digs_zero]; rfl
    · rw [digs_pos BB_two (by omega)]; exact Nat.mod_eq_of_lt hA
  have := small_any h (by omega)
  rw [hs, if_pos hl, hv, decide_eq_true hl] at this
  exact this


theorem wide_ok {w : World} {v u : Value} {L H m : Nat} (h : Num w v L) (k : Num w u H) (h1 : L ≤ H) (h2 : H ≤ L + m) (hm : m ≤ 100000) : Calls Tryd.prog 14 #[v, u, .int .i64 (m : Int)] w fun e w' => e = .returned (.bool true) ∧ Below w.heap.size w w' := by
  obtain ⟨C, rfl⟩ : ∃ C, H = L + C := ⟨H - L, by omega⟩
  have wm : IntKind.u64.wrap (m : Int) = (m : Int) := by rw [IntKind.wrap_u64]; omega
  have dm : decide ((C : Int) ≤ (m : Int)) = true := decide_eq_true (by omega)
  have dn : decide (C ≤ m) = true := decide_eq_true (by omega)
  have HS := Lib.hid (sub_n k h (C := C) rfl)
  have HM := Lib.hid (fun w v (h : RdN w v (digs BB C)) => nsmall_s h (show C < 18446744073709551616 by omega))
  unfold L64 at HM
  clear h k
  go_enter Tryd.func14, Tryd.ntmps14
  go_wp2_with
  (first
    | (go_at_call 40; (with_reducible refine (HS.out).mono ?_); rintro e w1 ⟨vd1, rfl, d1, hb1⟩; have B1 := hb1)
    | (go_at_call 41; (with_reducible refine (HM.out _ _ d1).mono ?_); rintro e w2 ⟨rfl, hb2⟩; have B2 := B1.trans (hb2.mono B1.size); have d2 := d1.below hb2; clear d1)
    | fail)
  go_ret
  exact ⟨rfl, B2⟩

theorem holds_ok {w : World} {v u r : Value} {L H R : Nat} (h : Num w v L) (k : Num w u H) (hr : RdD w r (digs DD R)) (sL : bitN L ≤ 20000) (sH : bitN H ≤ 20000) (sR : bitN R ≤ 20000) (h1 : L * 2 ^ 80 ≤ R + 1048576) (h2 : R ≤ H * 2 ^ 80) :
    Calls Tryd.prog 15 #[v, u, r] w fun e w' => e = .returned (.bool true) ∧ Below w.heap.size w w' := by
  obtain ⟨a, ha⟩ : ∃ a, L * 2 ^ 80 = a := ⟨_, rfl⟩
  obtain ⟨b, hb⟩ : ∃ b, H * 2 ^ 80 = b := ⟨_, rfl⟩
  have sa : bitN a ≤ 20080 := by rw [← ha]; exact Nat.le_trans (bitN_shl _ _) (by omega)
  have sb : bitN b ≤ 20080 := by rw [← hb]; exact Nat.le_trans (bitN_shl _ _) (by omega)
  have s20 : bitN 1048576 ≤ 400000 := Nat.le_trans (bitN_le.2 (show 1048576 < 2 ^ 21 by decide)) (by decide)
  have HA : Hid (∀ w v, RdD w v (digs DD L) → Calls Tryd.prog 21 #[v, .int .i64 80] w (OneD w (digs DD a))) := Lib.hid (fun w v h => by rw [← ha]; exact rshl_n (n := 80) h (by omega))
  have KB : Hid (∀ w v, RdD w v (digs DD H) → Calls Tryd.prog 21 #[v, .int .i64 80] w (OneD w (digs DD b))) := Lib.hid (fun w v h => by rw [← hb]; exact rshl_n (n := 80) h (by omega))
  rw [ha] at h1
  rw [hb] at h2
  have c1 : decide (cmpN a (R + 1048576) ≤ 0) = true := decide_eq_true (cmpN_le' h1)
  have c2 : decide (cmpN R b ≤ 0) = true := decide_eq_true (cmpN_le' h2)
  obtain ⟨x1, e1⟩ : ∃ c, cmpN a (R + 1048576) = c := ⟨_, rfl⟩
  obtain ⟨x2, e2⟩ : ∃ c, cmpN R b = c := ⟨_, rfl⟩
  rw [e1] at c1
  rw [e2] at c2
  have E1 := Lib.hid e1; have E2 := Lib.hid e2
  clear e1 e2 ha hb
  go_enter Tryd.func15, Tryd.ntmps15
  go_wp2_with
  (first
    | (go_at_call 9; (with_reducible refine (to_n h).mono ?_); rintro e w1 ⟨vx1, rfl, x1, hb1⟩; have B1 := hb1; have h1 := h.below hb1; have k1 := k.below hb1; have r1 := hr.below hb1; clear h k hr)
    | (go_at_call 21; (with_reducible refine (HA.out _ _ x1).mono ?_); rintro e w2 ⟨va2, rfl, a2, hb2⟩; have B2 := B1.trans (hb2.mono B1.size); have h2 := h1.below hb2; have k2 := k1.below hb2; have r2 := r1.below hb2; have x2 := x1.below hb2; clear h1 k1 r1 x1)
    | (go_at_call 9; (with_reducible refine (to_n k2).mono ?_); rintro e w3 ⟨vy3, rfl, y3, hb3⟩; have B3 := B2.trans (hb3.mono B2.size); have h3 := h2.below hb3; have k3 := k2.below hb3; have r3 := r2.below hb3; have x3 := x2.below hb3; have a3 := a2.below hb3; clear h2 k2 r2 x2 a2)
    | (go_at_call 21; (with_reducible refine (KB.out _ _ y3).mono ?_); rintro e w4 ⟨vb4, rfl, b4, hb4⟩; have B4 := B3.trans (hb4.mono B3.size); have h4 := h3.below hb4; have k4 := k3.below hb4; have r4 := r3.below hb4; have x4 := x3.below hb4; have a4 := a3.below hb4; have y4 := y3.below hb4; clear h3 k3 r3 x3 a3 y3)
    | (go_at_call 25; (with_reducible refine (wide_n).mono ?_); rintro e w5 ⟨vz5, rfl, z5, hb5⟩; have B5 := B4.trans (hb5.mono B4.size); have h5 := h4.below hb5; have k5 := k4.below hb5; have r5 := r4.below hb5; have x5 := x4.below hb5; have a5 := a4.below hb5; have y5 := y4.below hb5; have b5 := b4.below hb5; clear h4 k4 r4 x4 a4 y4 b4)
    | (go_at_call 10; (with_reducible refine (radd_n r5 z5 rfl (by omega) s20).mono ?_); rintro e w6 ⟨vs6, rfl, s6, hb6⟩; have B6 := B5.trans (hb6.mono B5.size); have h6 := h5.below hb6; have k6 := k5.below hb6; have r6 := r5.below hb6; have x6 := x5.below hb6; have a6 := a5.below hb6; have y6 := y5.below hb6; have b6 := b5.below hb6; have z6 := z5.below hb6; clear h5 k5 r5 x5 a5 y5 b5 z5)
    | (go_at_call 13; (with_reducible refine (rcmp_n a6 s6 E1.out (by omega)).mono ?_); rintro e w7 ⟨rfl, hb7⟩; have B7 := B6.trans (hb7.mono B6.size); have h7 := h6.below hb7; have k7 := k6.below hb7; have r7 := r6.below hb7; have x7 := x6.below hb7; have a7 := a6.below hb7; have y7 := y6.below hb7; have b7 := b6.below hb7; have z7 := z6.below hb7; have s7 := s6.below hb7; clear h6 k6 r6 x6 a6 y6 b6 z6 s6)
    | (go_at_call 13; (with_reducible refine (rcmp_n r7 b7 E2.out (by omega)).mono ?_); rintro e w8 ⟨rfl, hb8⟩; have B8 := B7.trans (hb8.mono B7.size); have h8 := h7.below hb8; have k8 := k7.below hb8; have r8 := r7.below hb8; have x8 := x7.below hb8; have a8 := a7.below hb8; have y8 := y7.below hb8; have b8 := b7.below hb8; have z8 := z7.below hb8; have s8 := s7.below hb8; clear h7 k7 r7 x7 a7 y7 b7 z7 s7)
    | fail)
  go_ret
  exact ⟨rfl, B8⟩
end Go.Proofs.YtecgimdgmilcbaaDoor
