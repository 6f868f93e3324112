/- planimeterref14.Right, Off by their contracts. Conditions: the numbers are short. (Only in the seat of ExpsTell: set expsz.) -/
import Derived.Test.YthmaoohjhnpamaaGreatDoorExpG
import Derived.Test.YthmaoohjhnpamaaGreatDoorLRef2
import Derived.Test.YthmaoohjhnpamaaGreatDoorRatA
import Derived.Test.YthmaoohjhnpamaaGreatDoorEpG
namespace Go.Proofs.YthmaoohjhnpamaaGreatDoor
set_option maxRecDepth 100000
open Go.RowKit Go.ChangeShapes Go.WideShapes
set_option linter.unusedVariables false
set_option linter.unusedSimpArgs false

theorem ROff14_n {w : World} {m : Nat} {t : Int} (hm : m ≤ 100000) (h1 : -1000000 ≤ t) (h2 : t ≤ 1000000) :
    Calls Tryz.prog 14 #[.int .i64 t, .int .i64 (m : Int)] w (fun e w' => ∃ v, e = .returned (.agg #[.bool false, v, .int .i64 (t - (m : Int))]) ∧ RdD w' v (digs DD (2 ^ 40)) ∧ Below w.heap.size w w') := by
  have HN : Hid (∀ w, Calls Tryz.prog 48 #[.int .u64 1] w (OneD w (digs DD 1))) := Lib.hid (fun w => num_any (n := 1) (by decide))
  have HS : Hid (∀ w v, RdD w v (digs DD 1) → Calls Tryz.prog 30 #[v, .int .i64 40] w (OneD w (digs DD (2 ^ 40)))) := Lib.hid (fun w v h => by
    have := rshl_n (n := 40) h (by rw [bitN_one]; decide)
    rw [Nat.one_mul] at this
    exact this)
  have wt : IntKind.i64.wrap (t - (m : Int)) = t - (m : Int) := by rw [IntKind.wrap_i64]; omega
  have P0 := blk_new (w := w) (T := 28) (c := #[.bool false, .slice none 0 0, .int .i64 0])
  have B0 := below_alloc w (.cells #[.bool false, .slice none 0 0, .int .i64 0] 28 (0, 0))
  obtain ⟨F, hF⟩ : ∃ F, 2 ^ 40 = F := ⟨_, rfl⟩
  rw [hF] at HS ⊢
  clear h1 h2 hF
  go_enter Tryz.func14, Tryz.ntmps14
  go_upto_region 1 with fail
  generalize w.alloc (.cells #[.bool false, .slice none 0 0, .int .i64 0] 28 (0, 0)) = w0 at *
  obtain ⟨cP0, cP1, cP2, fP0, fP1, fP2, sP⟩ := P0.open3
  go_wp2_with
  (first
    | (go_at_call 48; (with_reducible refine (HN.out _).mono ?_); rintro e w1 ⟨vx1, rfl, x1, hb1⟩; have B1 := B0.trans (hb1.mono B0.size); have P1 := P0.below hb1; clear P0; obtain ⟨cP0_1, cP1_1, cP2_1, fP0_1, fP1_1, fP2_1, sP_1⟩ := P1.open3)
    | (go_at_call 30; (with_reducible refine (HS.out _ _ x1).mono ?_); rintro e w2 ⟨vy2, rfl, y2, hb2⟩; have B2 := B1.trans (hb2.mono B1.size); have P2 := P1.below hb2; have x2 := x1.below hb2; clear P1 x1; clear cP0_1 cP1_1 cP2_1 fP0_1 fP1_1 fP2_1 sP_1; obtain ⟨cP0_2, cP1_2, cP2_2, fP0_2, fP1_2, fP2_2, sP_2⟩ := P2.open3; obtain ⟨ay2, ky2, rfl, -⟩ := y2.view; try simp only [List.length_nil] at y2)
    | fail)
  obtain ⟨z0, z1, z2, -⟩ := (P2.set3 (.bool false) (.slice ay2 (digs DD F).length ky2) (.int .i64 (t - (m : Int)))).open3
  refine bodyPost_ret (v := .agg #[.bool false, .slice ay2 (digs DD F).length ky2, .int .i64 (t - (m : Int))]) ?_ rfl ?_
  · simp [results, Tryz.results14, go_sem, z0, z1, z2]
  · exact ⟨_, rfl, y2.set3 P2 dcells32 _ _ _, below_set3 B2 (Nat.le_refl _) _ _ _⟩

set_option maxHeartbeats 2000000 in
theorem RRight14_n {w : World} {u : Value} {neg : Bool} {M : Nat} {E : Int} (h : RdD w u (digs DD M)) (sM : bitN M ≤ 200000) :
    Calls Tryz.prog 19 #[.agg #[.bool neg, u, .int .i64 E]] w (fun e w' => e = .returned (.bool (rightB M E)) ∧ Below w.heap.size w w') := by
  obtain ⟨a, n, k, rfl⟩ := h.slice
  obtain ⟨b, eb⟩ : ∃ b, bitN M = b := ⟨_, rfl⟩
  obtain ⟨ff, hff⟩ : ∃ f, fitsE E = f := ⟨_, rfl⟩
  obtain ⟨rr, hrr⟩ : ∃ r, rightB M E = r := ⟨_, rfl⟩
  have hr0 := hrr
  unfold rightB topD at hr0
  rw [hff, eb] at hr0
  rw [hrr]
  clear hrr
  have HF : Hid (∀ w, Calls Tryz.prog 56 #[.agg #[.bool neg, .slice a n k, .int .i64 E]] w (fun e w' => e = .returned (.bool ff) ∧ Below w.heap.size w w')) := Lib.hid (fun w => by rw [← hff]; exact RFits_n)
  have HB := Lib.hid (fun w v (h : RdD w v (digs DD M)) => rbits_n h eb (by omega))
  have P0 := blk_new (w := w) (T := 28) (c := #[.bool neg, .slice a n k, .int .i64 E])
  have B0 := below_alloc w (.cells #[.bool neg, .slice a n k, .int .i64 E] 28 (0, 0))
  have x0 := h.below B0
  have hlen : n = (digs DD M).length := by
    obtain ⟨a', k', hv, -⟩ := h.view
    injection hv
  cases ff
  · obtain rfl : rr = false := by rw [← hr0]; rfl
    clear HB eb hlen hr0
    go_enter Tryz.func19, Tryz.ntmps19
    go_wp2_with
    (first
      | (go_at_call 56; (with_reducible refine (HF.out _).mono ?_); rintro e w1 ⟨rfl, hb1⟩; have B1 := B0.trans (hb1.mono B0.size); have x1 := x0.below hb1; have P1 := P0.below hb1; clear x0 P0; obtain ⟨cP0_1, cP1_1, cP2_1, fP0_1, fP1_1, fP2_1, sP_1⟩ := P1.open3)
      | fail)
    go_ret
    exact ⟨rfl, by assumption⟩
  have rE : -1073741824 ≤ E ∧ E ≤ 1073741824 := by unfold fitsE at hff; simp at hff; exact hff
  by_cases t1 : b ≤ 20000
  rotate_left
  · have s1 : decide ((b : Int) ≤ 20000) = false := decide_eq_false (by omega)
    have s1' : decide (b ≤ 20000) = false := decide_eq_false t1
    obtain rfl : rr = false := by rw [← hr0, s1']; rfl
    clear eb hlen hr0
    go_enter Tryz.func19, Tryz.ntmps19
    go_wp2_with
    (first
      | (go_at_call 56; (with_reducible refine (HF.out _).mono ?_); rintro e w1 ⟨rfl, hb1⟩; have B1 := B0.trans (hb1.mono B0.size); have x1 := x0.below hb1; have P1 := P0.below hb1; clear x0 P0; obtain ⟨cP0_1, cP1_1, cP2_1, fP0_1, fP1_1, fP2_1, sP_1⟩ := P1.open3)
      | (go_at_call 25; (with_reducible refine (HB.out _ _ x1).mono ?_); rintro e w2 ⟨rfl, rfl⟩)
      | fail)
    go_ret
    exact ⟨rfl, by assumption⟩
  have s1 : decide ((b : Int) ≤ 20000) = true := decide_eq_true (by omega)
  have s1' : decide (b ≤ 20000) = true := decide_eq_true t1
  rw [s1'] at hr0
  by_cases t2 : -20000 ≤ E
  rotate_left
  · have s2 : decide (-20000 ≤ E) = false := decide_eq_false t2
    obtain rfl : rr = false := by rw [← hr0, s2]; rfl
    clear eb hlen hr0
    go_enter Tryz.func19, Tryz.ntmps19
    go_wp2_with
    (first
      | (go_at_call 56; (with_reducible refine (HF.out _).mono ?_); rintro e w1 ⟨rfl, hb1⟩; have B1 := B0.trans (hb1.mono B0.size); have x1 := x0.below hb1; have P1 := P0.below hb1; clear x0 P0; obtain ⟨cP0_1, cP1_1, cP2_1, fP0_1, fP1_1, fP2_1, sP_1⟩ := P1.open3)
      | (go_at_call 25; (with_reducible refine (HB.out _ _ x1).mono ?_); rintro e w2 ⟨rfl, rfl⟩)
      | fail)
    go_ret
    exact ⟨rfl, by assumption⟩
  have s2 : decide (-20000 ≤ E) = true := decide_eq_true t2
  rw [s2] at hr0
  by_cases h0 : M = 0
  · have hn0 : n = 0 := by rw [hlen, h0, digs_zero]; rfl
    obtain rfl : rr = true := by rw [← hr0, h0]; rfl
    clear eb hlen h0 hr0
    subst hn0
    go_enter Tryz.func19, Tryz.ntmps19
    go_wp2_with
    (first
      | (go_at_call 56; (with_reducible refine (HF.out _).mono ?_); rintro e w1 ⟨rfl, hb1⟩; have B1 := B0.trans (hb1.mono B0.size); have x1 := x0.below hb1; have P1 := P0.below hb1; clear x0 P0; obtain ⟨cP0_1, cP1_1, cP2_1, fP0_1, fP1_1, fP2_1, sP_1⟩ := P1.open3)
      | (go_at_call 25; (with_reducible refine (HB.out _ _ x1).mono ?_); rintro e w2 ⟨rfl, rfl⟩)
      | fail)
    go_ret
    exact ⟨rfl, by assumption⟩
  have hn1 : (n : Int) ≠ 0 := by
    have : digs DD M ≠ [] := fun e => h0 ((digs_nil_iff DD_two _).1 e)
    have := List.length_pos_iff.2 this
    omega
  have hn2 : ((n : Int) == 0) = false := beq_false_of_ne hn1
  have HT : Hid (∀ w v, RdD w v (digs DD M) → Calls Tryz.prog 9 #[.agg #[.bool neg, v, .int .i64 E]] w (fun e w' => e = .returned (.int .i64 ((b : Int) - 1 + E)) ∧ Below w.heap.size w w')) := Lib.hid (fun w v h => by
    have := RTop_n (neg := neg) h sM (show -4294967296 ≤ E by omega) (show E ≤ 4294967296 by omega)
    unfold topD at this
    dsimp only at this
    rw [eb] at this
    exact this)
  obtain ⟨tp, htp⟩ : ∃ t, (b : Int) - 1 + E = t := ⟨_, rfl⟩
  rw [htp] at HT
  have hr : decide (tp < 12) = rr := by rw [← hr0, decide_eq_false h0]; simp [htp]
  clear eb hlen h0 htp hr0
  go_enter Tryz.func19, Tryz.ntmps19
  go_wp2_with
  (first
    | (go_at_call 56; (with_reducible refine (HF.out _).mono ?_); rintro e w1 ⟨rfl, hb1⟩; have B1 := B0.trans (hb1.mono B0.size); have x1 := x0.below hb1; have P1 := P0.below hb1; clear x0 P0; obtain ⟨cP0_1, cP1_1, cP2_1, fP0_1, fP1_1, fP2_1, sP_1⟩ := P1.open3)
    | (go_at_call 25; (with_reducible refine (HB.out _ _ x1).mono ?_); rintro e w2 ⟨rfl, rfl⟩)
    | (go_at_call 9; (with_reducible refine (HT.out _ _ x1).mono ?_); rintro e w3 ⟨rfl, hb3⟩; have B3 := B1.trans (hb3.mono B1.size); have x3 := x1.below hb3; have P3 := P1.below hb3; clear x1 P1; obtain ⟨cP0_3, cP1_3, cP2_3, fP0_3, fP1_3, fP2_3, sP_3⟩ := P3.open3)
    | fail)
  go_ret
  exact ⟨rfl, by assumption⟩
end Go.Proofs.YthmaoohjhnpamaaGreatDoor
