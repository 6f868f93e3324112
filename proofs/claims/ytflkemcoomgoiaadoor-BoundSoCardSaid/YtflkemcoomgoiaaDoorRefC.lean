/- planimeterref05.Of by its contract. Conditions: the number is short. -/
import Derived.Test.YtflkemcoomgoiaaDoorRefShr
import Derived.Test.YtflkemcoomgoiaaDoorDyA
import Derived.Test.YtflkemcoomgoiaaDoorRefA
import Derived.Test.YtflkemcoomgoiaaDoorDyC
import Derived.Deep.RegionHeld3
import Derived.Deep.CutBlock
namespace Go.Proofs.YtflkemcoomgoiaaDoor
set_option maxRecDepth 100000
open Go.RowKit Go.ChangeShapes Go.WideShapes

theorem rcut_n {w : World} {e : Int} (h1 : -9223372036854775808 ≤ e) (h2 : e ≤ 9223372036854775807) : Calls Tryd.prog 22 #[.int .i64 e] w (fun r w' => r = .returned (.int .i64 (cutE e)) ∧ w' = w) := by
  by_cases c1 : 2147483648 < e
  · have d1 : decide (2147483648 < e) = true := decide_eq_true c1
    have hc : cutE e = 2147483648 := by unfold cutE; omega
    rw [hc]
    clear hc
    go_enter Tryd.func22, Tryd.ntmps22
    go_wp2
    go_ret
    exact ⟨rfl, rfl⟩
  · have d1 : decide (2147483648 < e) = false := decide_eq_false c1
    by_cases c2 : e < -2147483648
    · have d2 : decide (e < -2147483648) = true := decide_eq_true c2
      have hc : cutE e = -2147483648 := by unfold cutE; omega
      rw [hc]
      clear hc
      go_enter Tryd.func22, Tryd.ntmps22
      go_wp2
      go_ret
      exact ⟨rfl, rfl⟩
    · have d2 : decide (e < -2147483648) = false := decide_eq_false c2
      have hc : cutE e = e := by unfold cutE; omega
      rw [hc]
      clear hc
      go_enter Tryd.func22, Tryd.ntmps22
      go_wp2
      go_ret
      exact ⟨rfl, rfl⟩

theorem RdD.set3 {w : World} {v : Value} {l : List Nat} {b : Nat} {c : Array Value} (h : RdD w v l) (hB : Blk w b c) (hc : ∀ x ∈ c.toList, ∀ n : Nat, x ≠ D32 n) (x y z : Value) :
    RdD (((w.setCell ⟨b, 0, none⟩ x).setCell ⟨b, 1, none⟩ y).setCell ⟨b, 2, none⟩ z) v l := by
  have ha : Rd (fun g => g ≠ b) w v (l.map D32) := by
    obtain ⟨a, k, h1, h2, h3, h4, h5⟩ := h
    obtain ⟨hb, T, hh⟩ := hB
    refine ⟨a, k, h1, h2, h3, h4, fun j u hj => ?_⟩
    obtain ⟨g, off, e1, _, e3⟩ := h5 j u hj
    refine ⟨g, off, e1, fun e => ?_, e3⟩
    subst e
    rw [World.cell?, hh] at e3
    obtain ⟨n, -, rfl⟩ := List.mem_map.1 (List.mem_of_getElem? hj)
    have e4 : c[off + j]? = some (D32 n) := by simpa using e3
    exact hc _ (by rw [← Array.getElem?_toList] at e4; exact List.mem_of_getElem? e4) n rfl
  have h2 := ha.keep (S := fun g => g = b) ((((Fr.refl (fun g => g = b) w).setCell (p := ⟨b, 0, none⟩) rfl x).setCell (p := ⟨b, 1, none⟩) rfl y).setCell (p := ⟨b, 2, none⟩) rfl z) (fun _ h => h)
  exact h2.mono (fun _ _ _ => trivial)
theorem dcells32 {p : Bool} {a : Option Addr} {n k : Nat} {e : Int} : ∀ x ∈ (#[.bool p, .slice a n k, .int .i64 e] : Array Value).toList, ∀ m : Nat, x ≠ D32 m := by
  intro x hx m
  simp at hx
  rcases hx with rfl | rfl | rfl <;> simp [D32]

/-- Below its lowest bit a number has noughts alone. -/
theorem low_bits {A t : Nat} (h0 : A ≠ 0) : (t < low2 A → A / 2 ^ t % 2 = 0) ∧ A / 2 ^ low2 A % 2 = 1 := by
  obtain ⟨m, hm⟩ := low2_eq h0
  refine ⟨fun h => ?_, by rw [odd_eq hm]; omega⟩
  obtain ⟨d, hd⟩ : ∃ d, low2 A = t + 1 + d := ⟨low2 A - t - 1, by omega⟩
  have e : A = 2 ^ t * (2 * (2 ^ d * (2 * m + 1))) := by
    rw [hd] at hm
    rw [hm, Nat.pow_add, Nat.pow_succ]
    simp only [Nat.mul_assoc]
  rw [e, Nat.mul_div_cancel_left _ (Nat.pow_pos (by omega))]
  omega

set_option maxHeartbeats 1000000 in
theorem ROf_n {w : World} {v : Value} {neg n' : Bool} {M M' : Nat} {E E' : Int} (h : Num w v M) (sM : bitN M ≤ 200000) (h1 : -9223372036854775808 ≤ E) (h2 : E ≤ 9223372036854775807) (e : bareD ⟨neg, M, E⟩ = ⟨n', M', E'⟩) :
    Calls Tryd.prog 8 #[.agg #[.bool neg, v, .int .i64 E]] w (fun e w' => ∃ u, e = .returned (.agg #[.bool n', u, .int .i64 E']) ∧ RdD w' u (digs DD M') ∧ Below w.heap.size w w') := by
  obtain ⟨a, n, k, rfl⟩ := h.slice
  by_cases h0 : M = 0
  · subst h0
    rw [bareD_zero rfl] at e
    injection e with e1 e2 e3
    subst e1 e2 e3
    have ht := Lib.hid (fun w v (h : Num w v 0) => (show Calls Tryd.prog 19 #[v] w (OneD w []) from to_n h))
    go_enter Tryd.func8, Tryd.ntmps8
    go_wp2_with
    (first
      | (go_at_call 19; (with_reducible refine (ht.out _ _ (h.below below_2)).mono ?_); rintro e w1 ⟨vd1, rfl, d1, hb1⟩; have B1 := below_2.trans (hb1.mono below_2.size); have m1 := ((h.below below_2)).below hb1; have P1 := ((blk_a1)).below hb1; have R1 := ((blk_a2)).below hb1; obtain ⟨cP0_1, cP1_1, cP2_1, fP0_1, fP1_1, fP2_1, sP_1⟩ := P1.open3; obtain ⟨cR0_1, cR1_1, cR2_1, fR0_1, fR1_1, fR2_1, sR_1⟩ := R1.open3; obtain ⟨ad1, kd1, rfl, -⟩ := d1.view; try simp only [List.length_nil] at d1)
      | fail)
    obtain ⟨q0, q1, q2, -⟩ := (R1.set3 (.bool false) (.slice none 0 0) (.int .i64 0)).open3
    refine bodyPost_ret (v := .agg #[.bool false, .slice none 0 0, .int .i64 0]) ?_ rfl ?_
    · simp [results, Tryd.results8, go_sem, q0, q1, q2]
    · exact ⟨_, rfl, by rw [digs_zero]; exact Rd.nil _ _, below_set3 B1 (by omega) _ _ _⟩
  · have hsn : digs DD M ≠ [] := fun e => h0 ((digs_nil_iff DD_two _).1 e)
    have hsb : (((digs DD M).length : Int) == 0) = false := beq_false_of_ne (by have := List.length_pos_iff.2 hsn; omega)
    obtain ⟨lb1, lb2⟩ := And.intro (fun t => (low_bits (t := t) h0).1) (low_bits (t := 0) h0).2
    rw [bareD_pos h0] at e
    injection e with e1 e2 e3
    simp only at e1 e2 e3
    have hl := low2_lt h0
    have sM3 : bitN M ≤ 300000 := by omega
    have hlM : (digs DD M).length ≤ 1000000 := Nat.le_trans (digsDlen sM3) (by omega)
    generalize low2 M = k at *
    obtain ⟨c1, c2⟩ := cutE_range E
    have HC := Lib.hid (fun w => rcut_n (w := w) h1 h2)
    generalize cutE E = c at *
    have hadd : IntKind.i64.wrap (c + (k : Int)) = c + (k : Int) := by rw [IntKind.wrap_i64]; omega
    subst e1 e3
    have LB1 := Lib.hid lb1; have LB2 := Lib.hid lb2; have E2 := Lib.hid e2
    have hk30 : k ≤ 300000 := by omega
    have HS := Lib.hid (fun w v (h : RdD w v (digs DD M)) => rshr_n (n := k) h sM3 (by omega))
    unfold RShr at HS
    rw [e2] at HS
    have ht := Lib.hid (fun w v (h : Num w v M) => to_n h)
    clear lb1 lb2 e2
    go_enter Tryd.func8, Tryd.ntmps8
    go_wp2_with
    (first
      | (go_at_call 19; (with_reducible refine (ht.out _ _ (h.below below_2)).mono ?_); rintro e w1 ⟨vd1, rfl, d1, hb1⟩; have B1 := below_2.trans (hb1.mono below_2.size); have m1 := ((h.below below_2)).below hb1; have P1 := ((blk_a1)).below hb1; have R1 := ((blk_a2)).below hb1; obtain ⟨cP0_1, cP1_1, cP2_1, fP0_1, fP1_1, fP2_1, sP_1⟩ := P1.open3; obtain ⟨cR0_1, cR1_1, cR2_1, fR0_1, fR1_1, fR2_1, sR_1⟩ := R1.open3; obtain ⟨ad1, kd1, rfl, -⟩ := d1.view; try simp only [List.length_nil] at d1)
      | fail)
    have HD1 := Lib.hid d1; have HP1 := Lib.hid P1; have HR1 := Lib.hid R1; have HB1 := Lib.hid B1
    clear cP0_1 cP1_1 cP2_1 fP0_1 fP1_1 fP2_1 sP_1 cR0_1 cR1_1 cR2_1 fR0_1 fR1_1 fR2_1 sR_1 m1 hb1 P1 R1 B1 d1
    go_loopw [4] (fun x wr => ∃ t : Nat, x = .int .i64 t ∧ t ≤ k ∧ wr = w1) (fun x _ => k - (intOf x).toNat)
    case atStart => exact ⟨0, rfl, Nat.zero_le _, rfl⟩
    case round =>
      obtain ⟨t, rfl, ht', rfl⟩ := hrel
      have hBt := Lib.hid (rbit_any (i := t) HD1.out hlM (by omega))
      by_cases hlt : t < k
      · rw [LB1.out t hlt] at hBt
        go_wp2_with (go_at_call 20; (with_reducible refine hBt.out.mono ?_); rintro e w2 ⟨rfl, rfl⟩)
        go_round
        case rel => exact ⟨t + 1, by go_num, by omega, by first | rfl | trivial⟩
        case measure => simp [intOf]; omega
      · obtain rfl : t = k := by omega
        rw [LB2.out] at hBt
        have P1 := HP1.out; have R1 := HR1.out; have B1 := HB1.out; have d1 := HD1.out
        obtain ⟨cP0_0, cP1_0, cP2_0, fP0_0, fP1_0, fP2_0, sP_0⟩ := P1.open3
        obtain ⟨cR0_0, cR1_0, cR2_0, fR0_0, fR1_0, fR2_0, sR_0⟩ := R1.open3
        have BA := B1
        go_wp2_with
        (first
          | (go_at_call 20; (with_reducible refine (hBt.out).mono ?_); rintro e w2 ⟨rfl, rfl⟩)
          | (go_at_call 21; (with_reducible refine (HS.out _ _ d1).mono ?_); rintro e w3 ⟨vq3, rfl, q3, hb3⟩; have B3 := BA.trans (hb3.mono BA.size); have d3 := d1.below hb3; have P3 := P1.below hb3; have R3 := R1.below hb3; clear d1 P1 R1; obtain ⟨cP0_3, cP1_3, cP2_3, fP0_3, fP1_3, fP2_3, sP_3⟩ := P3.open3; obtain ⟨cR0_3, cR1_3, cR2_3, fR0_3, fR1_3, fR2_3, sR_3⟩ := R3.open3; obtain ⟨aq3, kq3, rfl, -⟩ := q3.view; try simp only [List.length_nil] at q3)
          | fail)
        go_still_tail 8, (by kernel_rfl)
        still_call (HC.out _)
        repeat still_step
        refine wpStill_nil ?_
        change wpList _ _ _ _ _ w3.drew
        have RD : Blk w3.drew _ _ := R3.below (below_drewN (Below.refl _ _) 1)
        have BD : Below w.heap.size w w3.drew := below_drewN B3 1
        have QD : RdD w3.drew _ _ := q3.below (below_drewN (Below.refl _ _) 1)
        clear cP0_3 cP1_3 cP2_3 fP0_3 fP1_3 fP2_3 sP_3 cR0_3 cR1_3 cR2_3 fR0_3 fR1_3 fR2_3 sR_3 P3 R3 B3 q3 d3
        generalize w3.drew = w4 at *
        obtain ⟨cR0, cR1, cR2, fR0, fR1, fR2, sR⟩ := RD.open3
        go_wp2
        obtain ⟨q0, q1, q2, -⟩ := (RD.set3 (.bool neg) (.slice aq3 (digs DD M').length kq3) (.int .i64 (c + (t : Int)))).open3
        refine bodyPost_ret (v := .agg #[.bool neg, .slice aq3 (digs DD M').length kq3, .int .i64 (c + (t : Int))]) ?_ rfl ?_
        · simp [results, Tryd.results8, go_sem, q0, q1, q2]
        · exact ⟨_, rfl, QD.set3 RD dcells32 _ _ _, below_set3 BD (by omega) _ _ _⟩
end Go.Proofs.YtflkemcoomgoiaaDoor

/- planimeterref05.Fits, Top, Sign, Same, To by their contracts. Conditions: the numbers are short. -/
namespace Go.Proofs.YtflkemcoomgoiaaDoor
set_option maxRecDepth 100000
open Go.RowKit Go.ChangeShapes Go.WideShapes

theorem RdD.slice {w : World} {v : Value} {l : List Nat} (h : RdD w v l) : ∃ a, ∃ m k : Nat, v = .slice a m k := by
  obtain ⟨a, k, h2, -⟩ := h.view
  exact ⟨a, _, k, h2⟩

end Go.Proofs.YtflkemcoomgoiaaDoor

/- planimeterref05.To by its contract. Conditions: the number is short. -/
namespace Go.Proofs.YtflkemcoomgoiaaDoor
set_option maxRecDepth 100000
open Go.RowKit Go.ChangeShapes Go.WideShapes

end Go.Proofs.YtflkemcoomgoiaaDoor
