/- planimeterref05.Of by its contract. Conditions: the number is short. -/
import Derived.Test.YtabdmnjdmnnejaaDoorRefShr
import Derived.Test.YtabdmnjdmnnejaaDoorDyA
import Derived.Test.YtabdmnjdmnnejaaDoorRefA
import Derived.Test.YtabdmnjdmnnejaaDoorDyC
import Derived.Deep.RegionHeld3
import Derived.Deep.CutBlock
namespace Go.Proofs.YtabdmnjdmnnejaaDoor
set_option maxRecDepth 100000
open Go.RowKit Go.ChangeShapes Go.WideShapes

theorem rcut_n {w : World} {e : Int} (h1 : -9223372036854775808 ≤ e) (h2 : e ≤ 9223372036854775807) : Calls Tryd.prog 33 #[.int .i64 e] w (fun r w' => r = .returned (.int .i64 (cutE e)) ∧ w' = w) := by
  by_cases c1 : 2147483648 < e
  · have d1 : decide (2147483648 < e) = true := decide_eq_true c1
    have hc : cutE e = 2147483648 := by unfold cutE; omega
    rw [hc]
    clear hc
    go_enter Tryd.func33, Tryd.ntmps33
    go_wp2
    go_ret
    exact ⟨rfl, rfl⟩
  · have d1 : decide (2147483648 < e) = false := decide_eq_false c1
    by_cases c2 : e < -2147483648
    · have d2 : decide (e < -2147483648) = true := decide_eq_true c2
      have hc : cutE e = -2147483648 := by unfold cutE; omega
      rw [hc]
      clear hc
      go_enter Tryd.func33, Tryd.ntmps33
      go_wp2
      go_ret
      exact ⟨rfl, rfl⟩
    · have d2 : decide (e < -2147483648) = false := decide_eq_false c2
      have hc : cutE e = e := by unfold cutE; omega
      rw [hc]
      clear hc
      go_enter Tryd.func33, Tryd.ntmps33
      go_wp2
      go_ret
      exact ⟨rfl, rfl⟩

theorem RdD.set3 {w : World} {v : Value} {l : List Nat} {b : Nat} {c : Array Value} (h : RdD w v l) (hB : Blk w b c) (hc : ∀ x ∈ c.toList, ∀ n : Nat, x ≠ D32 n) (x y z : Value) :
    RdD (((w.setCell ⟨b, 0, none⟩ x).setCell ⟨b, 1, none⟩ y).setCell ⟨b, 2, none⟩ z) v l := by
  have ha : Rd (fun g => g ≠ b) w v (l.map D32) := by
    obtain ⟨a, k, h1, h2, h3, h4, h5⟩ := h
    obtain ⟨hb, T, hh⟩ := hB
    refine ⟨a, k, h1, h2, h3, h4, fun j u hj => ?_⟩
    obtain ⟨g, off, e1, _, e3⟩ := h5 j u hj
    refine ⟨g, off, e1, fun e => ?_, e3⟩
    subst e
    rw [World.cell?, hh] at e3
    obtain ⟨n, -, rfl⟩ := List.mem_map.1 (List.mem_of_getElem? hj)
    have e4 : c[off + j]? = some (D32 n) := by simpa using e3
    exact hc _ (by rw [← Array.getElem?_toList] at e4; exact List.mem_of_getElem? e4) n rfl
  have h2 := ha.keep (S := fun g => g = b) ((((Fr.refl (fun g => g = b) w).setCell (p := ⟨b, 0, none⟩) rfl x).setCell (p := ⟨b, 1, none⟩) rfl y).setCell (p := ⟨b, 2, none⟩) rfl z) (fun _ h => h)
  exact h2.mono (fun _ _ _ => trivial)
theorem dcells32 {p : Bool} {a : Option Addr} {n k : Nat} {e : Int} : ∀ x ∈ (#[.bool p, .slice a n k, .int .i64 e] : Array Value).toList, ∀ m : Nat, x ≠ D32 m := by
  intro x hx m
  simp at hx
  rcases hx with rfl | rfl | rfl <;> simp [D32]

/-- Below its lowest bit a number has noughts alone. -/
theorem low_bits {A t : Nat} (h0 : A ≠ 0) : (t < low2 A → A / 2 ^ t % 2 = 0) ∧ A / 2 ^ low2 A % 2 = 1 := by
  obtain ⟨m, hm⟩ := low2_eq h0
  refine ⟨fun h => ?_, by rw [odd_eq hm]; omega⟩
  obtain ⟨d, hd⟩ : ∃ d, low2 A = t + 1 + d := ⟨low2 A - t - 1, by omega⟩
  have e : A = 2 ^ t * (2 * (2 ^ d * (2 * m + 1))) := by
    rw [hd] at hm
    rw [hm, Nat.pow_add, Nat.pow_succ]
    simp only [Nat.mul_assoc]
  rw [e, Nat.mul_div_cancel_left _ (Nat.pow_pos (by omega))]
  omega

set_option maxHeartbeats 1000000 in
theorem ROf_n {w : World} {v : Value} {neg n' : Bool} {M M' : Nat} {E E' : Int} (h : Num w v M) (sM : bitN M ≤ 200000) (h1 : -9223372036854775808 ≤ E) (h2 : E ≤ 9223372036854775807) (e : bareD ⟨neg, M, E⟩ = ⟨n', M', E'⟩) :
    Calls Tryd.prog 8 #[.agg #[.bool neg, v, .int .i64 E]] w (fun e w' => ∃ u, e = .returned (.agg #[.bool n', u, .int .i64 E']) ∧ RdD w' u (digs DD M') ∧ Below w.heap.size w w') := by
  obtain ⟨a, n, k, rfl⟩ := h.slice
  by_cases h0 : M = 0
  · subst h0
    rw [bareD_zero rfl] at e
    injection e with e1 e2 e3
    subst e1 e2 e3
    have ht := Lib.hid (fun w v (h : Num w v 0) => (show Calls Tryd.prog 30 #[v] w (OneD w []) from to_n h))
    go_enter Tryd.func8, Tryd.ntmps8
    go_wp2_with
    (first
      | (go_at_call 30; (with_reducible refine (ht.out _ _ (h.below below_2)).mono ?_); rintro e w1 ⟨vd1, rfl, d1, hb1⟩; have B1 := below_2.trans (hb1.mono below_2.size); have m1 := ((h.below below_2)).below hb1; have P1 := ((blk_a1)).below hb1; have R1 := ((blk_a2)).below hb1; obtain ⟨cP0_1, cP1_1, cP2_1, fP0_1, fP1_1, fP2_1, sP_1⟩ := P1.open3; obtain ⟨cR0_1, cR1_1, cR2_1, fR0_1, fR1_1, fR2_1, sR_1⟩ := R1.open3; obtain ⟨ad1, kd1, rfl, -⟩ := d1.view; try simp only [List.length_nil] at d1)
      | fail)
    obtain ⟨q0, q1, q2, -⟩ := (R1.set3 (.bool false) (.slice none 0 0) (.int .i64 0)).open3
    refine bodyPost_ret (v := .agg #[.bool false, .slice none 0 0, .int .i64 0]) ?_ rfl ?_
    · simp [results, Tryd.results8, go_sem, q0, q1, q2]
    · exact ⟨_, rfl, by rw [digs_zero]; exact Rd.nil _ _, below_set3 B1 (by omega) _ _ _⟩
  · have hsn : digs DD M ≠ [] := fun e => h0 ((digs_nil_iff DD_two _).1 e)
    have hsb : (((digs DD M).length : Int) == 0) = false := beq_false_of_ne (by have := List.length_pos_iff.2 hsn; omega)
    obtain ⟨lb1, lb2⟩ := And.intro (fun t => (low_bits (t := t) h0).1) (low_bits (t := 0) h0).2
    rw [bareD_pos h0] at e
    injection e with e1 e2 e3
    simp only at e1 e2 e3
    have hl := low2_lt h0
    have sM3 : bitN M ≤ 300000 := by omega
    have hlM : (digs DD M).length ≤ 1000000 := Nat.le_trans (digsDlen sM3) (by omega)
    generalize low2 M = k at *
    obtain ⟨c1, c2⟩ := cutE_range E
    have HC := Lib.hid (fun w => rcut_n (w := w) h1 h2)
    generalize cutE E = c at *
    have hadd : IntKind.i64.wrap (c + (k : Int)) = c + (k : Int) := by rw [IntKind.wrap_i64]; omega
    subst e1 e3
    have LB1 := Lib.hid lb1; have LB2 := Lib.hid lb2; have E2 := Lib.hid e2
    have hk30 : k ≤ 300000 := by omega
    have HS := Lib.hid (fun w v (h : RdD w v (digs DD M)) => rshr_n (n := k) h sM3 (by omega))
    unfold RShr at HS
    rw [e2] at HS
    have ht := Lib.hid (fun w v (h : Num w v M) => to_n h)
    clear lb1 lb2 e2
    go_enter Tryd.func8, Tryd.ntmps8
    go_wp2_with
    (first
      | (go_at_call 30; (with_reducible refine (ht.out _ _ (h.below below_2)).mono ?_); rintro e w1 ⟨vd1, rfl, d1, hb1⟩; have B1 := below_2.trans (hb1.mono below_2.size); have m1 := ((h.below below_2)).below hb1; have P1 := ((blk_a1)).below hb1; have R1 := ((blk_a2)).below hb1; obtain ⟨cP0_1, cP1_1, cP2_1, fP0_1, fP1_1, fP2_1, sP_1⟩ := P1.open3; obtain ⟨cR0_1, cR1_1, cR2_1, fR0_1, fR1_1, fR2_1, sR_1⟩ := R1.open3; obtain ⟨ad1, kd1, rfl, -⟩ := d1.view; try simp only [List.length_nil] at d1)
      | fail)
    have HD1 := Lib.hid d1; have HP1 := Lib.hid P1; have HR1 := Lib.hid R1; have HB1 := Lib.hid B1
    clear cP0_1 cP1_1 cP2_1 fP0_1 fP1_1 fP2_1 sP_1 cR0_1 cR1_1 cR2_1 fR0_1 fR1_1 fR2_1 sR_1 m1 hb1 P1 R1 B1 d1
    go_loopw [4] (fun x wr => ∃ t : Nat, x = .int .i64 t ∧ t ≤ k ∧ wr = w1) (fun x _ => k - (intOf x).toNat)
    case atStart => exact ⟨0, rfl, Nat.zero_le _, rfl⟩
    case round =>
      obtain ⟨t, rfl, ht', rfl⟩ := hrel
      have hBt := Lib.hid (rbit_any (i := t) HD1.out hlM (by omega))
      by_cases hlt : t < k
      · rw [LB1.out t hlt] at hBt
        go_wp2_with (go_at_call 31; (with_reducible refine hBt.out.mono ?_); rintro e w2 ⟨rfl, rfl⟩)
        go_round
        case rel => exact ⟨t + 1, by go_num, by omega, by first | rfl | trivial⟩
        case measure => simp [intOf]; omega
      · obtain rfl : t = k := by omega
        rw [LB2.out] at hBt
        have P1 := HP1.out; have R1 := HR1.out; have B1 := HB1.out; have d1 := HD1.out
        obtain ⟨cP0_0, cP1_0, cP2_0, fP0_0, fP1_0, fP2_0, sP_0⟩ := P1.open3
        obtain ⟨cR0_0, cR1_0, cR2_0, fR0_0, fR1_0, fR2_0, sR_0⟩ := R1.open3
        have BA := B1
        go_wp2_with
        (first
          | (go_at_call 31; (with_reducible refine (hBt.out).mono ?_); rintro e w2 ⟨rfl, rfl⟩)
          | (go_at_call 32; (with_reducible refine (HS.out _ _ d1).mono ?_); rintro e w3 ⟨vq3, rfl, q3, hb3⟩; have B3 := BA.trans (hb3.mono BA.size); have d3 := d1.below hb3; have P3 := P1.below hb3; have R3 := R1.below hb3; clear d1 P1 R1; obtain ⟨cP0_3, cP1_3, cP2_3, fP0_3, fP1_3, fP2_3, sP_3⟩ := P3.open3; obtain ⟨cR0_3, cR1_3, cR2_3, fR0_3, fR1_3, fR2_3, sR_3⟩ := R3.open3; obtain ⟨aq3, kq3, rfl, -⟩ := q3.view; try simp only [List.length_nil] at q3)
          | fail)
        go_still_tail 8, (by kernel_rfl)
        still_call (HC.out _)
        repeat still_step
        refine wpStill_nil ?_
        change wpList _ _ _ _ _ w3.drew
        have RD : Blk w3.drew _ _ := R3.below (below_drewN (Below.refl _ _) 1)
        have BD : Below w.heap.size w w3.drew := below_drewN B3 1
        have QD : RdD w3.drew _ _ := q3.below (below_drewN (Below.refl _ _) 1)
        clear cP0_3 cP1_3 cP2_3 fP0_3 fP1_3 fP2_3 sP_3 cR0_3 cR1_3 cR2_3 fR0_3 fR1_3 fR2_3 sR_3 P3 R3 B3 q3 d3
        generalize w3.drew = w4 at *
        obtain ⟨cR0, cR1, cR2, fR0, fR1, fR2, sR⟩ := RD.open3
        go_wp2
        obtain ⟨q0, q1, q2, -⟩ := (RD.set3 (.bool neg) (.slice aq3 (digs DD M').length kq3) (.int .i64 (c + (t : Int)))).open3
        refine bodyPost_ret (v := .agg #[.bool neg, .slice aq3 (digs DD M').length kq3, .int .i64 (c + (t : Int))]) ?_ rfl ?_
        · simp [results, Tryd.results8, go_sem, q0, q1, q2]
        · exact ⟨_, rfl, QD.set3 RD dcells32 _ _ _, below_set3 BD (by omega) _ _ _⟩
end Go.Proofs.YtabdmnjdmnnejaaDoor

/- planimeterref05.Fits, Top, Sign, Same, To by their contracts. Conditions: the numbers are short. -/
namespace Go.Proofs.YtabdmnjdmnnejaaDoor
set_option maxRecDepth 100000
open Go.RowKit Go.ChangeShapes Go.WideShapes

theorem RdD.slice {w : World} {v : Value} {l : List Nat} (h : RdD w v l) : ∃ a, ∃ m k : Nat, v = .slice a m k := by
  obtain ⟨a, k, h2, -⟩ := h.view
  exact ⟨a, _, k, h2⟩

theorem RFits_n {w : World} {a : Option Addr} {n k : Nat} {neg : Bool} {E : Int} : Calls Tryd.prog 10 #[.agg #[.bool neg, .slice a n k, .int .i64 E]] w (fun e w' => e = .returned (.bool (fitsE E)) ∧ Below w.heap.size w w') := by
  unfold fitsE
  by_cases c1 : -1073741824 ≤ E
  · have d1 : decide (-1073741824 ≤ E) = true := decide_eq_true c1
    go_enter Tryd.func10, Tryd.ntmps10
    go_wp2
    all_goals
      go_ret
      exact ⟨by simp [d1], below_alloc _ _⟩
  · have d1 : decide (-1073741824 ≤ E) = false := decide_eq_false c1
    go_enter Tryd.func10, Tryd.ntmps10
    go_wp2
    all_goals
      go_ret
      exact ⟨by simp, below_alloc _ _⟩

theorem RSame_n {w : World} {v u : Value} {neg neg2 : Bool} {M M2 : Nat} {E E2 : Int} {r : Bool} (h : RdN w v (digs BB M)) (k : RdN w u (digs BB M2)) (hr : decide (neg = neg2 ∧ E = E2 ∧ M = M2) = r) :
    Calls Tryd.prog 16 #[.agg #[.bool neg, v, .int .i64 E], .agg #[.bool neg2, u, .int .i64 E2]] w (fun e w' => e = .returned (.bool r) ∧ Below w.heap.size w w') := by
  obtain ⟨av, kv, rfl, -⟩ := h.view
  obtain ⟨au, ku, rfl, -⟩ := k.view
  have hS := Lib.hid (fun w v u (h : RdN w v (digs BB M)) (k : RdN w u (digs BB M2)) => same_any h k)
  by_cases c1 : neg = neg2
  · subst c1
    by_cases c2 : E = E2
    · subst c2
      have hm : decide (digs BB M = digs BB M2) = r := by
        rw [← hr]
        refine decide_eq_decide.2 ⟨fun h => ⟨rfl, rfl, digs_inj BB_two h⟩, fun h => by rw [h.2.2]⟩
      rw [hm] at hS
      clear hr hm
      go_enter Tryd.func16, Tryd.ntmps16
      go_wp2_with
      (first
        | (go_at_call 44; (with_reducible refine (hS.out _ _ _ (h.below below_2) (k.below below_2)).mono ?_); rintro e w1 ⟨rfl, hb1⟩; have B1 := below_2.trans (hb1.mono below_2.size); have a1 := ((h.below below_2)).below hb1; have b1 := ((k.below below_2)).below hb1; have P1 := ((blk_a1)).below hb1; have Q1 := ((blk_a2)).below hb1; obtain ⟨cP0_1, cP1_1, cP2_1, fP0_1, fP1_1, fP2_1, sP_1⟩ := P1.open3; obtain ⟨cQ0_1, cQ1_1, cQ2_1, fQ0_1, fQ1_1, fQ2_1, sQ_1⟩ := Q1.open3)
        | fail)
      all_goals
        go_ret
        exact ⟨rfl, by assumption⟩
    · have hrf : r = false := by rw [← hr]; exact decide_eq_false (fun h => c2 h.2.1)
      have hb2 : (E == E2) = false := beq_false_of_ne c2
      subst hrf
      clear hr hS
      go_enter Tryd.func16, Tryd.ntmps16
      go_wp2
      all_goals
        go_ret
        exact ⟨rfl, below_2⟩
  · have hrf : r = false := by rw [← hr]; exact decide_eq_false (fun h => c1 h.1)
    subst hrf
    clear hr hS
    go_enter Tryd.func16, Tryd.ntmps16
    go_wp2
    all_goals
      go_ret
      exact ⟨rfl, below_2⟩
end Go.Proofs.YtabdmnjdmnnejaaDoor

/- planimeterref05.To by its contract. Conditions: the number is short. -/
namespace Go.Proofs.YtabdmnjdmnnejaaDoor
set_option maxRecDepth 100000
open Go.RowKit Go.ChangeShapes Go.WideShapes

theorem rof_n {w : World} {v : Value} {A : Nat} (h : RdD w v (digs DD A)) (sA : bitN A ≤ 400000) : Calls Tryd.prog 43 #[v] w (One w (digs BB A)) := rof_any h (Nat.le_trans (digsDlen sA) (by omega))

set_option maxHeartbeats 1000000 in
theorem RTo_n {w : World} {u : Value} {neg n' : Bool} {M M' : Nat} {E E' : Int} (h : RdD w u (digs DD M)) (sM : bitN M ≤ 200000) (h1 : -9223372036854775808 ≤ E) (h2 : E ≤ 9223372036854775807) (e : bareD ⟨neg, M, E⟩ = ⟨n', M', E'⟩) (hf : fitsE E' = true) :
    Calls Tryd.prog 15 #[.agg #[.bool neg, u, .int .i64 E]] w (fun e w' => ∃ v, e = .returned (.tuple #[.agg #[.bool n', v, .int .i64 E'], .int .i64 0]) ∧ RdN w' v (digs BB M') ∧ Below w.heap.size w w') := by
  obtain ⟨a, n, k, rfl⟩ := h.slice
  have sMn : bitN M ≤ 400000 := by omega
  have sM6 : bitN M ≤ 2560000 := by omega
  have sM' : bitN M' ≤ 400000 := by
    have := bareD_m_le ⟨neg, M, E⟩
    rw [e] at this
    exact Nat.le_trans (bitN_mono this) sMn
  have ee := Lib.hid e
  have HO := Lib.hid (fun w v (h : RdN w v (digs BB M)) => ROf_n (h.num sM6) sM h1 h2 e)
  have HF := Lib.hid (fun w a n k => RFits_n (w := w) (a := a) (n := n) (k := k) (neg := n') (E := E'))
  rw [hf] at HF
  clear e
  go_enter Tryd.func15, Tryd.ntmps15
  go_upto_region 1 with fail
  have P0 : Blk ((w.alloc (.cells #[.bool neg, .slice a n k, .int .i64 E] 30)).alloc (.cells #[.bool false, .slice none 0 0, .int .i64 0] 24)) w.heap.size #[.bool neg, .slice a n k, .int .i64 E] := blk_a1
  have R0 : Blk ((w.alloc (.cells #[.bool neg, .slice a n k, .int .i64 E] 30)).alloc (.cells #[.bool false, .slice none 0 0, .int .i64 0] 24)) (w.heap.size + 1) #[.bool false, .slice none 0 0, .int .i64 0] := blk_a2
  have B0 : Below w.heap.size w ((w.alloc (.cells #[.bool neg, .slice a n k, .int .i64 E] 30)).alloc (.cells #[.bool false, .slice none 0 0, .int .i64 0] 24)) := below_2
  have m0 : RdD ((w.alloc (.cells #[.bool neg, .slice a n k, .int .i64 E] 30)).alloc (.cells #[.bool false, .slice none 0 0, .int .i64 0] 24)) _ _ := h.below B0
  generalize (w.alloc (.cells #[.bool neg, .slice a n k, .int .i64 E] 30)).alloc (.cells #[.bool false, .slice none 0 0, .int .i64 0] 24) = w0 at *
  generalize hb0 : w.heap.size = b0 at *
  go_cut [4] (fun x wx => ∃ bx ax kx, x = .pointer (some ⟨bx, 0, none⟩) ∧ Blk wx bx #[.bool n', .slice ax (digs DD M').length kx, .int .i64 E'] ∧ RdD wx (.slice ax (digs DD M').length kx) (digs DD M') ∧ Blk wx (b0 + 1) #[.bool false, .slice none 0 0, .int .i64 0] ∧ bx ≠ b0 + 1 ∧ Below b0 w wx)
  case first =>
    have hAD : Below w0.heap.size w0 w0.drew := below_drewN (Below.refl _ _) 1
    have hAA : Below w0.heap.size w0 (w0.alloc (.cells #[.bool false, .slice none 0 0, .int .i64 0] 30)).drew := below_drewN (below_alloc w0 _) 1
    have NA : Blk (w0.alloc (.cells #[.bool false, .slice none 0 0, .int .i64 0] 30)).drew w0.heap.size #[.bool false, .slice none 0 0, .int .i64 0] := blk_new.below (below_drewN (Below.refl _ _) 1)
    have hPl := P0.1
    have hRl := R0.1
    have hb4 : b0 ≤ w0.heap.size := hb0 ▸ B0.size
    obtain ⟨cP0_0, cP1_0, cP2_0, fP0_0, fP1_0, fP2_0, sP_0⟩ := (P0.below hAD).open3
    obtain ⟨cA0_0, cA1_0, cA2_0, fA0_0, fA1_0, fA2_0, sA_0⟩ := (P0.below hAA).open3
    go_region_held3 (fun w' => w'.cell? ⟨b0, 0, none⟩ = some (.bool neg) ∧ w'.cell? ⟨b0, 1, none⟩ = some (.slice a n k) ∧ w'.cell? ⟨b0, 2, none⟩ = some (.int .i64 E)) (first | with_reducible exact ⟨cP0_0, cP1_0, cP2_0⟩ | with_reducible exact ⟨cA0_0, cA1_0, cA2_0⟩ | with_reducible exact ⟨c1.1, c1.2.1, c1.2.2.1⟩ | with_reducible exact ⟨c2.1, c2.2.1, c2.2.2.1⟩ | with_reducible exact ⟨(c1a _).1, (c1a _).2.1, (c1a _).2.2.1⟩ | with_reducible exact ⟨(c2a _).1, (c2a _).2.1, (c2a _).2.2.1⟩ | with_reducible exact ⟨(c2b _ _ _ _).1, (c2b _ _ _ _).2.1, (c2b _ _ _ _).2.2.1⟩ | with_reducible exact ⟨(c2c _ _ _).1, (c2c _ _ _).2.1, (c2c _ _ _).2.2.1⟩ | with_reducible exact ⟨(c2d _ _ _).1, (c2d _ _ _).2.1, (c2d _ _ _).2.2.1⟩)
      (first
        | (go_at_call 43; (with_reducible refine (rof_n (m0.below hAD) sMn).mono ?_); rintro e w1 ⟨v1, rfl, z1, hb1⟩; have BX1 := hAD.trans (hb1.mono hAD.size); have PX1 := P0.below BX1; have RX1 := R0.below BX1; have c1 := PX1.open3; have c1a := fun o => (PX1.below (below_alloc w1 o)).open3; obtain ⟨a1, k1, rfl, -⟩ := z1.view)
        | (go_at_call 43; (with_reducible refine (rof_n (m0.below hAA) sMn).mono ?_); rintro e w1 ⟨v1, rfl, z1, hb1⟩; have BX1 := hAA.trans (hb1.mono hAA.size); have PX1 := P0.below BX1; have RX1 := R0.below BX1; have c1 := PX1.open3; have c1a := fun o => (PX1.below (below_alloc w1 o)).open3; have NX1 := NA.below hb1; obtain ⟨a1, k1, rfl, -⟩ := z1.view)
        | (go_at_call 8; (with_reducible refine (HO.out _ _ z1).mono ?_); rintro e w2 ⟨v2, rfl, z2, hb2⟩; have BX2 := BX1.trans (hb2.mono BX1.size); have PX2 := P0.below BX2; have RX2 := R0.below BX2; have c2 := PX2.open3; have c2a := fun o => (PX2.below (below_alloc w2 o)).open3; have c2b := fun o x y z => ((PX2.below (below_alloc w2 o)).other3 (Nat.ne_of_lt PX2.1) x y z).open3; have c2c := fun x y z => (PX2.other3 (Nat.ne_of_lt hPl) x y z).open3; have c2d := fun x y z => (PX2.other3 (Nat.ne_of_lt PX1.1) x y z).open3; (first | (have NX2 := NX1.below hb2; obtain ⟨cN0, cN1, cN2, fN0, fN1, fN2, sN⟩ := NX2.open3) | skip); obtain ⟨a2, k2, rfl, -⟩ := z2.view)
        | (go_at_call 8; (with_reducible refine (HO.out _ _ (z1.below (below_alloc _ _))).mono ?_); rintro e w2 ⟨v2, rfl, z2, hb2⟩; have hb2' := below_a hb2; have BX2 := BX1.trans (hb2'.mono BX1.size); have PX2 := P0.below BX2; have RX2 := R0.below BX2; have c2 := PX2.open3; have c2a := fun o => (PX2.below (below_alloc w2 o)).open3; have c2b := fun o x y z => ((PX2.below (below_alloc w2 o)).other3 (Nat.ne_of_lt PX2.1) x y z).open3; have c2c := fun x y z => (PX2.other3 (Nat.ne_of_lt hPl) x y z).open3; have c2d := fun x y z => (PX2.other3 (Nat.ne_of_lt PX1.1) x y z).open3; have NX2 := blk_new.below hb2; obtain ⟨cN0, cN1, cN2, fN0, fN1, fN2, sN⟩ := NX2.open3; obtain ⟨a2, k2, rfl, -⟩ := z2.view)
        | fail)
    · go_wp2_with fail
      go_meet
      exact ⟨w2.heap.size, a2, k2, rfl, blk_new, z2.below (below_alloc _ _), RX2.below (below_alloc _ _), Nat.ne_of_gt RX2.1, (B0.trans (BX2.mono hb4)).alloc (Nat.le_trans hb4 BX2.size) _⟩
    · go_wp2_with fail
      go_meet
      exact ⟨w1.heap.size, a2, k2, rfl, NX2.set3 _ _ _, z2.set3 NX2 dcells32 _ _ _, RX2.other3 (Nat.ne_of_lt RX1.1) _ _ _, Nat.ne_of_gt RX1.1, below_set3b (B0.trans (BX2.mono hb4)) (Nat.le_trans hb4 BX1.size) _ _ _⟩
    · go_wp2_with fail
      go_meet
      exact ⟨w0.heap.size, a2, k2, rfl, NX2.set3 _ _ _, z2.set3 NX2 dcells32 _ _ _, RX2.other3 (Nat.ne_of_lt hRl) _ _ _, Nat.ne_of_gt hRl, below_set3b (B0.trans (BX2.mono hb4)) hb4 _ _ _⟩
  case rest =>
    obtain ⟨bx, ax, kx, rfl, X1, x1, R1, hne, B1⟩ := hcut
    obtain ⟨cX0_0, cX1_0, cX2_0, fX0_0, fX1_0, fX2_0, sX_0⟩ := X1.open3
    obtain ⟨cR0_0, cR1_0, cR2_0, fR0_0, fR1_0, fR2_0, sR_0⟩ := R1.open3
    clear P0 R0 B0 m0
    by_cases h0 : M' = 0
    · subst h0
      have hz := ee.out
      by_cases hM : M = 0
      · rw [hM, bareD_zero rfl] at hz
        injection hz with z1 z2 z3
        subst z1 z3
        have BC := B1
        rw [digs_zero] at *
        go_wp2_with
        (first
          | (go_at_call 10; (with_reducible refine (HF.out _ _ _ _).mono ?_); rintro e w2 ⟨rfl, hb2⟩; have B2 := hb2; have x2 := x1.below hb2; have X2 := X1.below hb2; have R2 := R1.below hb2; clear x1 X1 R1; obtain ⟨cX0_2, cX1_2, cX2_2, fX0_2, fX1_2, fX2_2, sX_2⟩ := X2.open3; obtain ⟨cR0_2, cR1_2, cR2_2, fR0_2, fR1_2, fR2_2, sR_2⟩ := R2.open3)
          | fail)
        obtain ⟨q0, q1, q2, -⟩ := (R2.set3 (.bool false) (.slice none 0 0) (.int .i64 0)).open3
        refine bodyPost_ret (v := .tuple #[.agg #[.bool false, .slice none 0 0, .int .i64 0], .int .i64 0]) ?_ rfl ?_
        · simp [results, Tryd.results15, go_sem, q0, q1, q2]
        · exact ⟨_, rfl, RdN.nil _, hb0 ▸ below_set3b (BC.trans (B2.mono (hb0 ▸ BC.size))) (by omega) _ _ _⟩
      · have := (bareD_m_zero ⟨neg, M, E⟩)
        rw [hz] at this
        exact absurd (this.1 rfl) hM
    · have hsn : digs DD M' ≠ [] := fun e => h0 ((digs_nil_iff DD_two _).1 e)
      have hsi : ((digs DD M').length : Int) ≠ 0 := by have := List.length_pos_iff.2 hsn; omega
      have hsb : (((digs DD M').length : Int) == 0) = false := beq_false_of_ne hsi
      have BC := B1
      have hnx := Nat.ne_of_gt sX_0
      go_wp2_with
      (first
        | (go_at_call 10; (with_reducible refine (HF.out _ _ _ _).mono ?_); rintro e w2 ⟨rfl, hb2⟩; have B2 := hb2; have x2 := x1.below hb2; have X2 := X1.below hb2; have R2 := R1.below hb2; clear x1 X1 R1; obtain ⟨cX0_2, cX1_2, cX2_2, fX0_2, fX1_2, fX2_2, sX_2⟩ := X2.open3; obtain ⟨cR0_2, cR1_2, cR2_2, fR0_2, fR1_2, fR2_2, sR_2⟩ := R2.open3)
        | fail)
      have hAD : Below w2.heap.size w2 w2.drew := below_drewN (Below.refl _ _) 1
      have XD := X2.below hAD; have RD := R2.below hAD; have xD := x2.below hAD
      have BW : Below b0 w w2 := BC.trans (B2.mono (hb0 ▸ BC.size))
      have BD : Below b0 w w2.drew := BW.trans (hAD.mono (hb0 ▸ BW.size))
      obtain ⟨cD0, cD1, cD2, fD0, fD1, fD2, sD⟩ := XD.open3
      obtain ⟨cE0, cE1, cE2, fE0, fE1, fE2, sE⟩ := RD.open3
      clear cX0_2 cX1_2 cX2_2 fX0_2 fX1_2 fX2_2 sX_2 cR0_2 cR1_2 cR2_2 fR0_2 fR1_2 fR2_2 sR_2
      go_region_held3 (fun w' => w'.cell? ⟨bx, 0, none⟩ = some (.bool n') ∧ w'.cell? ⟨bx, 1, none⟩ = some (.slice ax (digs DD M').length kx) ∧ w'.cell? ⟨bx, 2, none⟩ = some (.int .i64 E')) (first | with_reducible exact ⟨cD0, cD1, cD2⟩ | with_reducible exact ⟨cF.1, cF.2.1, cF.2.2.1⟩ | with_reducible exact ⟨(cG _ _ _).1, (cG _ _ _).2.1, (cG _ _ _).2.2.1⟩)
        (first
          | (go_at_call 43; (with_reducible refine (rof_n xD sM').mono ?_); rintro e w3 ⟨v3, rfl, z3, hb3⟩; have X3 := XD.below hb3; have R3 := RD.below hb3; have cF := X3.open3; have cG := fun x y z => (X3.other3 hne x y z).open3; obtain ⟨cR0, cR1, cR2, fR0, fR1, fR2, sR⟩ := R3.open3; obtain ⟨a3, k3, rfl, -⟩ := z3.view)
          | fail)
      all_goals
        go_wp2_with fail
        obtain ⟨q0, q1, q2, -⟩ := (R3.set3 (.bool n') (.slice a3 (digs BB M').length k3) (.int .i64 E')).open3
        refine bodyPost_ret (v := .tuple #[.agg #[.bool n', .slice a3 (digs BB M').length k3, .int .i64 E'], .int .i64 0]) ?_ rfl ?_
        · simp [results, Tryd.results15, go_sem, q0, q1, q2]
        · exact ⟨_, rfl, z3.set3 R3 dcells _ _ _, hb0 ▸ below_set3b (BD.trans (hb3.mono (hb0 ▸ BD.size))) (by omega) _ _ _⟩
end Go.Proofs.YtabdmnjdmnnejaaDoor
