/- series.Ln2, chapter 12's alive() and wide() by their contracts. Conditions: the numbers are short; math/bits' table stands in its variable. -/
import Derived.Test.YtecgimdgmilcbaaDoorSer5
namespace Go.Proofs.YtecgimdgmilcbaaDoor
set_option maxRecDepth 100000
open Go.RowKit Go.ChangeShapes Go.WideShapes
set_option linter.unusedVariables false

theorem AtOk.bits {A B s L H : Nat} (h : AtOk A B s L H) (s1 : 8 ≤ s) (s2 : s ≤ 9000) : bitN L ≤ 20000 ∧ bitN H ≤ 20000 := by
  have h0 := Nat.two_pow_pos s
  have h1 := h.short
  have h2 := h.wide
  have h3 : s * 2 ^ s ≤ 9000 * 2 ^ s := Nat.mul_le_mul_right _ s2
  have hb : ∀ x, x ≤ 20000 * 2 ^ s → bitN x ≤ 20000 := fun x hx => Nat.le_trans (bitN_le.2 (show x < 2 ^ (s + 15) by rw [Nat.pow_add]; omega)) (by omega)
  exact ⟨hb _ (by omega), hb _ (by omega)⟩

theorem of_3 {w : World} : Calls Tryd.prog 46 #[.int .u64 3] w (One w (digs BB 3)) := of_n (n := 3) (by decide)
theorem ln2_n {w : World} {s : Nat} (hT : Tab w) (s1 : 8 ≤ s) (s2 : s ≤ 9000) :
    Calls Tryd.prog 26 #[.int .i64 (s : Int)] w fun e w' => ∃ vl vh L H, e = .returned (.tuple #[vl, vh, .int .i64 0]) ∧ RdN w' vl (digs BB (L + L)) ∧ RdN w' vh (digs BB (H + H)) ∧ AtOk 1 3 s L H ∧ Below w.heap.size w w' := by
  have b1 : bitN 1 ≤ 4096 := by rw [bitN_one]; omega
  have b3 : bitN 3 ≤ 4096 := Nat.le_trans (bitN_le.2 (show 3 < 2 ^ 2 by decide)) (by omega)
  have HA := Lib.hid (fun w v u (h : Num w v 1) (k : Num w u 3) (hT : Tab w) => Atanh_ok h k hT s1 s2 b1 b3 (by omega) (by omega) (by omega))
  have KT := Lib.hid (fun L H (h : AtOk 1 3 s L H) => h.bits s1 s2)
  go_enter Tryd.func26, Tryd.ntmps26
  go_wp2_with
  (first
    | (go_at_call 46; (with_reducible refine (of_1).mono ?_); rintro e w1 ⟨vx1, rfl, x1, hb1⟩; have B1 := hb1; have T1 := hT.below hb1; clear hT)
    | (go_at_call 46; (with_reducible refine (of_3).mono ?_); rintro e w2 ⟨vy2, rfl, y2, hb2⟩; have B2 := B1.trans (hb2.mono B1.size); have T2 := T1.below hb2; have x2 := x1.below hb2; clear T1 x1)
    | (go_at_call 8; (with_reducible refine (HA.out _ _ _ (x2.num (by omega)) (y2.num (by omega)) T2).mono ?_); rintro e w3 ⟨vl, vh, L, H, rfl, l3, h3, ok, hb3⟩; have B3 := B2.trans (hb3.mono B2.size); have T3 := T2.below hb3; have x3 := x2.below hb3; have y3 := y2.below hb3; clear T2 x2 y2; obtain ⟨bl, bh⟩ := KT.out _ _ ok)
    | (go_at_call 19; (with_reducible refine (add_n (l3.num (by omega)) (l3.num (by omega)) rfl).mono ?_); rintro e w4 ⟨vp4, rfl, p4, hb4⟩; have B4 := B3.trans (hb4.mono B3.size); have T4 := T3.below hb4; have x4 := x3.below hb4; have y4 := y3.below hb4; have l4 := l3.below hb4; have h4 := h3.below hb4; clear T3 x3 y3 l3 h3)
    | (go_at_call 19; (with_reducible refine (add_n (h4.num (by omega)) (h4.num (by omega)) rfl).mono ?_); rintro e w5 ⟨vq5, rfl, q5, hb5⟩; have B5 := B4.trans (hb5.mono B4.size); have T5 := T4.below hb5; have x5 := x4.below hb5; have y5 := y4.below hb5; have l5 := l4.below hb5; have h5 := h4.below hb5; have p5 := p4.below hb5; clear T4 x4 y4 l4 h4 p4)
    | fail)
  go_ret3
  exact ⟨_, _, _, _, rfl, p5, q5, ok, B5⟩
theorem ln2_arg {w : World} {s : Int} (hs : ¬ (8 ≤ s ∧ s ≤ 9000)) :
    Calls Tryd.prog 26 #[.int .i64 s] w fun e w' => ∃ vl vh, e = .returned (.tuple #[vl, vh, .int .i64 1]) ∧ Below w.heap.size w w' := by
  have b1 : bitN 1 ≤ 60000 := by rw [bitN_one]; omega
  have b3 : bitN 3 ≤ 4096 := Nat.le_trans (bitN_le.2 (show 3 < 2 ^ 2 by decide)) (by omega)
  have HA := Lib.hid (fun w v u (h : Num w v 1) (k : Num w u 3) => Atanh_arg h k b1 (.inl hs))
  have n0 := Lib.hid (fun w => (show RdN w (.slice none 0 0) (digs BB 0) from RdN.nil0 _).num (by rw [bitN_zero]; omega))
  clear hs
  go_enter Tryd.func26, Tryd.ntmps26
  go_wp2_with
  (first
    | (go_at_call 46; (with_reducible refine (of_1).mono ?_); rintro e w1 ⟨vx1, rfl, x1, hb1⟩; have B1 := hb1)
    | (go_at_call 46; (with_reducible refine (of_3).mono ?_); rintro e w2 ⟨vy2, rfl, y2, hb2⟩; have B2 := B1.trans (hb2.mono B1.size); have x2 := x1.below hb2; clear x1)
    | (go_at_call 8; (with_reducible refine (HA.out _ _ _ (x2.num (by omega)) (y2.num (by omega))).mono ?_); rintro e w3 ⟨rfl, hb3⟩; have B3 := B2.trans (hb3.mono B2.size); have x3 := x2.below hb3; have y3 := y2.below hb3; clear x2 y2)
    | (go_at_call 19; (with_reducible refine (add_n (n0.out _) (n0.out _) rfl).mono ?_); rintro e w4 ⟨vp4, rfl, p4, hb4⟩; have B4 := B3.trans (hb4.mono B3.size); have x4 := x3.below hb4; have y4 := y3.below hb4; clear x3 y3)
    | (go_at_call 19; (with_reducible refine (add_n (n0.out _) (n0.out _) rfl).mono ?_); rintro e w5 ⟨vq5, rfl, q5, hb5⟩; have B5 := B4.trans (hb5.mono B4.size); have x5 := x4.below hb5; have y5 := y4.below hb5; have p5 := p4.below hb5; clear x4 y4 p4)
    | fail)
  go_ret3
  exact ⟨_, _, rfl, B5⟩

theorem third_lo : (256 : Rat) * (atA (1 / 3) 3 + 2 * (1 / 3) ^ 7) < 89 := by decide +kernel
theorem third_hi : (88 : Rat) < 256 * atA (1 / 3) 3 := by decide +kernel
theorem ln2_8 {L H : Nat} (h : AtOk 1 3 8 L H) : L ≤ 88 ∧ 89 ≤ H := by
  have e : (1 / 3 : Rat) * ((3 : Nat) : Rat) = ((1 : Nat) : Rat) := by decide +kernel
  have e0 : (0 : Rat) ≤ 1 / 3 := by decide +kernel
  have e1 : 3 * (1 / 3 : Rat) ≤ 1 := by decide +kernel
  have h1 := h.lo _ e e0
  have h2 := h.hi _ e e0 e1 3
  have h3 := atA_tail (x := 1 / 3) e0 e1 3 8
  have h256 : ((2 ^ 8 : Nat) : Rat) = 256 := rfl
  rw [h256] at h1 h2
  have a1 := third_lo
  have a2 := third_hi
  have m7 : 2 * 3 + 1 = 7 := rfl
  rw [m7] at h3
  generalize atA (1 / 3) 3 = a at *
  generalize atA (1 / 3) 8 = b at *
  generalize ((1 : Rat) / 3) ^ 7 = c at *
  have l1 : (L : Rat) < ((89 : Nat) : Rat) := by show (L : Rat) < 89; grind
  have l2 : ((88 : Nat) : Rat) < (H : Rat) := by show (88 : Rat) < H; grind
  have := Rat.natCast_lt_natCast.1 l1
  have := Rat.natCast_lt_natCast.1 l2
  omega

theorem lit177 {w : World} {T : TypeId} : Num (w.alloc (.cells #[.int .u64 177] T (0, 0))) (.slice (some ⟨w.heap.size, 0, none⟩) 1 1) 177 := by
  have h : RdN (w.alloc (.cells #[.int .u64 ((177 : Nat) : Int)] T (0, 0))) (.slice (some ⟨w.heap.size, 0, none⟩) 1 1) [177] := rd_one (heap_alloc_new _ _) trivial
  exact RdN.num1 h (by decide)
theorem lit178 {w : World} {T : TypeId} : Num (w.alloc (.cells #[.int .u64 178] T (0, 0))) (.slice (some ⟨w.heap.size, 0, none⟩) 1 1) 178 := by
  have h : RdN (w.alloc (.cells #[.int .u64 ((178 : Nat) : Int)] T (0, 0))) (.slice (some ⟨w.heap.size, 0, none⟩) 1 1) [178] := rd_one (heap_alloc_new _ _) trivial
  exact RdN.num1 h (by decide)
theorem cmpN_ge' {a b : Nat} (h : b ≤ a) : 0 ≤ cmpN a b := by
  unfold cmpN
  rw [if_neg (by omega)]
  split <;> decide

set_option maxHeartbeats 800000 in
theorem alive12_any {w : World} (hT : Tab w) : Calls Tryd.prog 7 #[] w (fun e w' => e = .returned (.bool true) ∧ Below w.heap.size w w') := by
  have H8 := Lib.hid (fun w (hT : Tab w) => show Calls Tryd.prog 26 #[.int .i64 8] w _ from ln2_n (s := 8) hT (by decide) (by decide))
  have H7 := Lib.hid (fun w => show Calls Tryd.prog 26 #[.int .i64 7] w _ from ln2_arg (w := w) (s := 7) (by decide))
  have HL := Lib.hid (fun L H (h : AtOk 1 3 8 L H) => And.intro (ln2_8 h) (h.bits (by decide) (by decide)))
  have HC1 : Hid (∀ (w : World) T v a (L : Nat), L ≤ 88 → Num (w.alloc (.cells #[.int .u64 177] T (0, 0))) v (L + L) → a = w.heap.size → Calls Tryd.prog 22 #[v, .slice (some ⟨a, 0, none⟩) 1 1] (w.alloc (.cells #[.int .u64 177] T (0, 0))) fun e w' => ∃ c, e = .returned (.int .i64 c) ∧ decide (c ≤ 0) = true ∧ Below (w.alloc (.cells #[.int .u64 177] T (0, 0))).heap.size (w.alloc (.cells #[.int .u64 177] T (0, 0))) w') := Lib.hid (by
    intro w T v a L hL hv ha
    subst ha
    refine (cmp_n hv lit177 rfl).mono ?_
    rintro e w1 ⟨rfl, h1⟩
    exact ⟨_, rfl, decide_eq_true (cmpN_le' (by omega)), h1⟩)
  have HC2 : Hid (∀ (w : World) T v a (H : Nat), 89 ≤ H → Num (w.alloc (.cells #[.int .u64 178] T (0, 0))) v (H + H) → a = w.heap.size → Calls Tryd.prog 22 #[v, .slice (some ⟨a, 0, none⟩) 1 1] (w.alloc (.cells #[.int .u64 178] T (0, 0))) fun e w' => ∃ c, e = .returned (.int .i64 c) ∧ decide (0 ≤ c) = true ∧ Below (w.alloc (.cells #[.int .u64 178] T (0, 0))).heap.size (w.alloc (.cells #[.int .u64 178] T (0, 0))) w') := Lib.hid (by
    intro w T v a L hL hv ha
    subst ha
    refine (cmp_n hv lit178 rfl).mono ?_
    rintro e w1 ⟨rfl, h1⟩
    exact ⟨_, rfl, decide_eq_true (cmpN_ge' (by omega)), h1⟩)
  go_enter Tryd.func7, Tryd.ntmps7
  go_wp2_with
  (first
    | (go_at_call 26; (with_reducible refine (H8.out _ hT).mono ?_); rintro e w1 ⟨vl, vh, L, H, rfl, l1, h1, ok, hb1⟩; have B1 := hb1; have T1 := hT.below hb1; clear hT; obtain ⟨⟨o1, o2⟩, bl, bh⟩ := HL.out _ _ ok; have sl : bitN (L + L) ≤ 2560000 := Nat.le_trans (bitN_le.2 (show L + L < 2 ^ 8 by omega)) (by decide); have sh : bitN (H + H) ≤ 2560000 := Nat.le_trans (bitN_mono (show H + H ≤ H * 2 ^ 1 by omega)) (Nat.le_trans (bitN_shl _ _) (by omega)))
    | (go_at_call 26; (with_reducible refine (H7.out _).mono ?_); rintro e w2 ⟨vx, vy, rfl, hb2⟩; have B2 := B1.trans (hb2.mono B1.size); have T2 := T1.below hb2; have l2 := l1.below hb2; have h2 := h1.below hb2; clear T1 l1 h1)
    | (go_at_call 22; (with_reducible refine (HC1.out _ _ _ _ _ o1 ((l2.below (below_alloc _ _)).num sl) rfl).mono ?_); rintro e w3 ⟨c1, rfl, dc1, hb3⟩; have hb3' := (below_a hb3); have B3 := B2.trans (hb3'.mono B2.size); have T3 := T2.below hb3'; have l3 := l2.below hb3'; have h3 := h2.below hb3'; clear T2 l2 h2)
    | (go_at_call 22; (with_reducible refine (HC2.out _ _ _ _ _ o2 ((h3.below (below_alloc _ _)).num sh) rfl).mono ?_); rintro e w4 ⟨c2, rfl, dc2, hb4⟩; have hb4' := (below_a hb4); have B4 := B3.trans (hb4'.mono B3.size); have T4 := T3.below hb4'; have l4 := l3.below hb4'; have h4 := h3.below hb4'; clear T3 l3 h3)
    | fail)
  go_ret
  exact ⟨rfl, B4⟩
end Go.Proofs.YtecgimdgmilcbaaDoor
