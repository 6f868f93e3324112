/- exact.rooted by its contract. Conditions: the number is odd and short; math/bits' table stands in its variable. -/
import Derived.Test.YtabdmnjdmnnejaaDoorEx3
import Derived.Test.YtabdmnjdmnnejaaDoorRootA
namespace Go.Proofs.YtabdmnjdmnnejaaDoor
set_option maxRecDepth 100000
open Go.RowKit Go.ChangeShapes Go.WideShapes
set_option linter.unusedVariables false

theorem Blk.put2 {w : World} {b : Nat} {x y z : Value} (h : Blk w b #[x, y, z]) (z' : Value) : Blk (w.setCell ⟨b, 2, none⟩ z') b #[x, y, z'] := by
  obtain ⟨h1, T, h2⟩ := h
  exact ⟨by simpa [World.setCell] using h1, T, heap_setC h2 z'⟩
theorem Blk.put1 {w : World} {b : Nat} {x y z : Value} (h : Blk w b #[x, y, z]) (y' : Value) : Blk (w.setCell ⟨b, 1, none⟩ y') b #[x, y', z] := by
  obtain ⟨h1, T, h2⟩ := h
  exact ⟨by simpa [World.setCell] using h1, T, heap_setC h2 y'⟩
theorem Blk.otherP {w : World} {b b' : Nat} {c : Array Value} (h : Blk w b c) (hne : b ≠ b') (o : Nat) (y : Value) : Blk (w.setCell ⟨b', o, none⟩ y) b c := by
  obtain ⟨h1, T, h2⟩ := h
  exact ⟨by simpa [World.setCell] using h1, T, heap_setO h2 y hne⟩
theorem RdN.putP {w : World} {v : Value} {l : List Nat} {b : Nat} {c : Array Value} (h : RdN w v l) (hB : Blk w b c) (hc : ∀ x ∈ c.toList, ∀ n : Nat, x ≠ L64 n) (o : Nat) (x : Value) : RdN (w.setCell ⟨b, o, none⟩ x) v l := by
  have h2 := (h.away hB hc).keep (S := fun g => g = b) ((Fr.refl (fun g => g = b) w).setCell (p := ⟨b, o, none⟩) rfl x) (fun _ h => h)
  exact h2.mono (fun _ _ _ => trivial)
theorem Tab.putP {w : World} {b : Nat} (h : Tab w) (hb : 0 ≠ b) (o : Nat) (x : Value) : Tab (w.setCell ⟨b, o, none⟩ x) :=
  h.fr ((Fr.refl (fun g => g = b) w).setCell (p := ⟨b, o, none⟩) rfl x) hb

/-- What is told of the k-th root of M times 2^E. -/
def RootR (M : Nat) (E : Int) (k : Nat) (ok : Bool) (r : Nat) (f : Int) : Prop :=
  (ok = true ∧ r ^ k = M ∧ f * (k : Int) = E) ∨ (ok = false ∧ ∀ r f, r ^ k = M → f * (k : Int) = E → False)

set_option maxHeartbeats 4000000 in
theorem rooted_n {w : World} {v : Value} {M k : Nat} {E : Int} (h : RdN w v (digs BB M)) (hT : Tab w) (ho : M % 2 = 1) (sM : bitN M ≤ 8192) (r1 : -1073741824 ≤ E) (r2 : E ≤ 1073741824) (hk : 1 ≤ k) (hk2 : k ≤ 9223372036854775807) :
    Calls Tryd.prog 34 #[.agg #[.bool false, v, .int .i64 E], .int .i64 (k : Int)] w (fun e w' => ∃ ok r f a n kk, e = .returned (.tuple #[.agg #[.bool false, .slice a n kk, .int .i64 f], .bool ok]) ∧ RootR M E k ok r f ∧ (ok = true → RdN w' (.slice a n kk) (digs BB r)) ∧ Below w.heap.size w w') := by
  obtain ⟨a, kk, rfl, -⟩ := h.view
  have hlt := hT.lt
  have P := blk_a1 (w := w) (T := 32) (c := #[.bool false, .slice a (digs BB M).length kk, .int .i64 E]) (o := .cells #[.bool false, .slice none 0 0, .int .i64 0] 32 (0, 0))
  have R := blk_a2 (w := w) (T := 32) (o := .cells #[.bool false, .slice a (digs BB M).length kk, .int .i64 E] 32 (0, 0)) (c := #[.bool false, .slice none 0 0, .int .i64 0])
  have B : Below w.heap.size w ((w.alloc (.cells #[.bool false, .slice a (digs BB M).length kk, .int .i64 E] 32 (0, 0))).alloc (.cells #[.bool false, .slice none 0 0, .int .i64 0] 32 (0, 0))) := below_2
  have x0 := h.below B; have T0 := hT.below B
  clear h hT
  by_cases k1 : k = 1
  · subst k1
    have d1 : (((1 : Nat) : Int) == 1) = true := rfl
    go_enter Tryd.func34, Tryd.ntmps34
    go_upto_region 1 with fail
    generalize hwx : (w.alloc (.cells #[.bool false, .slice a (digs BB M).length kk, .int .i64 E] 32 (0, 0))).alloc (.cells #[.bool false, .slice none 0 0, .int .i64 0] 32 (0, 0)) = w0 at *
    clear hwx
    obtain ⟨cP0, cP1, cP2, fP0, fP1, fP2, sP⟩ := P.open3
    obtain ⟨cR0, cR1, cR2, fR0, fR1, fR2, sR⟩ := R.open3
    go_wp2_with fail
    have x1 := x0.set3 R dcells (.bool false) (.slice a (digs BB M).length kk) (.int .i64 E)
    obtain ⟨q0, q1, q2, -⟩ := (R.set3 (.bool false) (.slice a (digs BB M).length kk) (.int .i64 E)).open3
    refine bodyPost_ret (v := .tuple #[.agg #[.bool false, .slice a (digs BB M).length kk, .int .i64 E], .bool true]) ?_ rfl ?_
    · simp [results, Tryd.results34, go_sem, q0, q1, q2]
    · exact ⟨_, M, _, _, _, _, rfl, .inl ⟨rfl, Nat.pow_one _, Int.mul_one _⟩, fun _ => x1, below_set3 B (by omega) _ _ _⟩
  have kb : ((k : Int) == 1) = false := beq_eq_false_iff_ne.2 (by omega)
  have kz : (k : Int) ≠ 0 := by omega
  by_cases tz : E.tmod (k : Int) = 0
  · obtain ⟨f, hf⟩ : ∃ f, E.tdiv (k : Int) = f := ⟨_, rfl⟩
    have hfk : f * (k : Int) = E := by rw [← hf]; exact Int.tdiv_mul_cancel (Int.dvd_of_tmod_eq_zero tz)
    have hfk' := Lib.hid hfk
    have rf : f.natAbs ≤ E.natAbs := by rw [← hfk, Int.natAbs_mul]; exact Nat.le_mul_of_pos_right _ (by omega)
    have wf : IntKind.i64.wrap f = f := by rw [IntKind.wrap_i64]; omega
    clear hfk rf
    obtain ⟨b, hb⟩ : ∃ b, bitN M = b := ⟨_, rfl⟩
    have eb := Lib.hid hb
    have sM' := Lib.hid sM
    have ho' := Lib.hid ho
    by_cases b1 : b = 1
    · have hM1 : M = 1 := by
        have h2 := bitN_lt M
        rw [hb, b1] at h2
        omega
      have hM' := Lib.hid hM1
      have db : ((b : Int) == 1) = true := by rw [b1]; rfl
      clear hb b1 hM1
      go_enter Tryd.func34, Tryd.ntmps34
      go_upto_region 1 with fail
      generalize hwx : (w.alloc (.cells #[.bool false, .slice a (digs BB M).length kk, .int .i64 E] 32 (0, 0))).alloc (.cells #[.bool false, .slice none 0 0, .int .i64 0] 32 (0, 0)) = w0 at *
      clear hwx
      obtain ⟨cP0, cP1, cP2, fP0, fP1, fP2, sP⟩ := P.open3
      obtain ⟨cR0, cR1, cR2, fR0, fR1, fR2, sR⟩ := R.open3
      go_upto_region 6 with fail
      have P1 := P.put2 (.int .i64 f)
      have R1 := R.otherP (show w.heap.size + 1 ≠ w.heap.size by omega) 2 (.int .i64 f)
      have x1 := x0.putP P dcells 2 (.int .i64 f)
      have T1 := T0.putP (Nat.ne_of_lt hlt) 2 (.int .i64 f)
      have B1 : Below w.heap.size w (w0.setCell ⟨w.heap.size, 2, none⟩ (.int .i64 f)) := below_set B (Nat.le_refl _) _
      clear cP0 cP1 cP2 fP0 fP1 fP2 sP cR0 cR1 cR2 fR0 fR1 fR2 sR P R x0 T0 B
      generalize w0.setCell ⟨w.heap.size, 2, none⟩ (.int .i64 f) = w1 at *
      obtain ⟨cP0, cP1, cP2, fP0, fP1, fP2, sP⟩ := P1.open3
      obtain ⟨cR0, cR1, cR2, fR0, fR1, fR2, sR⟩ := R1.open3
      go_wp2_with
      (first
        | (go_at_call 37; (with_reducible refine (bits_n (x1.num (by omega)) eb.out).mono ?_); rintro e w11 ⟨rfl, hb11⟩; have B11 := B1.trans (hb11.mono B1.size); have x11 := x1.below hb11; have T11 := T1.below hb11; have P11 := P1.below hb11; have R11 := R1.below hb11; clear x1 T1 P1 R1; obtain ⟨cP0_11, cP1_11, cP2_11, fP0_11, fP1_11, fP2_11, sP_11⟩ := P11.open3; obtain ⟨cR0_11, cR1_11, cR2_11, fR0_11, fR1_11, fR2_11, sR_11⟩ := R11.open3)
        | fail)
      have x3 := x11.set3 R11 dcells (.bool false) (.slice a (digs BB M).length kk) (.int .i64 f)
      obtain ⟨q0, q1, q2, -⟩ := (R11.set3 (.bool false) (.slice a (digs BB M).length kk) (.int .i64 f)).open3
      refine bodyPost_ret (v := .tuple #[.agg #[.bool false, .slice a (digs BB M).length kk, .int .i64 f], .bool true]) ?_ rfl ?_
      · simp [results, Tryd.results34, go_sem, q0, q1, q2]
      · exact ⟨_, M, _, _, _, _, rfl, .inl ⟨rfl, by rw [hM'.out]; exact Nat.one_pow _, hfk'.out⟩, fun _ => x3, below_set3 B11 (by omega) _ _ _⟩
    have db : ((b : Int) == 1) = false := beq_eq_false_iff_ne.2 (by omega)
    have hM3 : 3 ≤ M := by
      have hM1 : M ≠ 1 := fun e => b1 (by rw [← hb, e]; exact bitN_one)
      omega
    by_cases hkb : b < k
    · have dk : decide ((b : Int) < (k : Int)) = true := decide_eq_true (by omega)
      have dk2 : decide (b < k) = true := decide_eq_true hkb
      have hno := Lib.hid (show ∀ r (f : Int), r ^ k = M → f * (k : Int) = E → False from fun r f h1 _ => by
        have hr2 : 2 ≤ r := by
          rcases Nat.lt_or_ge r 2 with h | h
          · have : r ^ k ≤ 1 := by
              rcases Nat.lt_or_ge r 1 with h' | h'
              · obtain rfl : r = 0 := by omega
                rw [Nat.zero_pow (by omega)]; omega
              · obtain rfl : r = 1 := by omega
                rw [Nat.one_pow]; omega
            omega
          · exact h
        have h2 : 2 ^ k ≤ M := by rw [← h1]; exact Nat.pow_le_pow_left hr2 k
        have h3 := bitN_lt M
        rw [hb] at h3
        have h4 := Nat.pow_lt_pow_right (a := 2) (by omega) hkb
        omega)
      clear hb b1 hM3 hkb
      go_enter Tryd.func34, Tryd.ntmps34
      go_upto_region 1 with fail
      generalize hwx : (w.alloc (.cells #[.bool false, .slice a (digs BB M).length kk, .int .i64 E] 32 (0, 0))).alloc (.cells #[.bool false, .slice none 0 0, .int .i64 0] 32 (0, 0)) = w0 at *
      clear hwx
      obtain ⟨cP0, cP1, cP2, fP0, fP1, fP2, sP⟩ := P.open3
      obtain ⟨cR0, cR1, cR2, fR0, fR1, fR2, sR⟩ := R.open3
      go_upto_region 6 with fail
      have P1 := P.put2 (.int .i64 f)
      have R1 := R.otherP (show w.heap.size + 1 ≠ w.heap.size by omega) 2 (.int .i64 f)
      have x1 := x0.putP P dcells 2 (.int .i64 f)
      have T1 := T0.putP (Nat.ne_of_lt hlt) 2 (.int .i64 f)
      have B1 : Below w.heap.size w (w0.setCell ⟨w.heap.size, 2, none⟩ (.int .i64 f)) := below_set B (Nat.le_refl _) _
      clear cP0 cP1 cP2 fP0 fP1 fP2 sP cR0 cR1 cR2 fR0 fR1 fR2 sR P R x0 T0 B
      generalize w0.setCell ⟨w.heap.size, 2, none⟩ (.int .i64 f) = w1 at *
      obtain ⟨cP0, cP1, cP2, fP0, fP1, fP2, sP⟩ := P1.open3
      obtain ⟨cR0, cR1, cR2, fR0, fR1, fR2, sR⟩ := R1.open3
      go_wp2_with
      (first
        | (go_at_call 37; (with_reducible refine (bits_n (x1.num (by omega)) eb.out).mono ?_); rintro e w11 ⟨rfl, hb11⟩; have B11 := B1.trans (hb11.mono B1.size); have x11 := x1.below hb11; have T11 := T1.below hb11; have P11 := P1.below hb11; have R11 := R1.below hb11; clear x1 T1 P1 R1; obtain ⟨cP0_11, cP1_11, cP2_11, fP0_11, fP1_11, fP2_11, sP_11⟩ := P11.open3; obtain ⟨cR0_11, cR1_11, cR2_11, fR0_11, fR1_11, fR2_11, sR_11⟩ := R11.open3)
        | (go_at_call 37; (with_reducible refine (bits_n (x11.num (by omega)) eb.out).mono ?_); rintro e w12 ⟨rfl, hb12⟩; have B12 := B11.trans (hb12.mono B11.size); have x12 := x11.below hb12; have T12 := T11.below hb12; have P12 := P11.below hb12; have R12 := R11.below hb12; clear x11 T11 P11 R11; clear cP0_11 cP1_11 cP2_11 fP0_11 fP1_11 fP2_11 sP_11; obtain ⟨cP0_12, cP1_12, cP2_12, fP0_12, fP1_12, fP2_12, sP_12⟩ := P12.open3; clear cR0_11 cR1_11 cR2_11 fR0_11 fR1_11 fR2_11 sR_11; obtain ⟨cR0_12, cR1_12, cR2_12, fR0_12, fR1_12, fR2_12, sR_12⟩ := R12.open3)
        | fail)
      obtain ⟨q0, q1, q2, -⟩ := (R12.set3 (.bool false) (.slice none 0 0) (.int .i64 0)).open3
      refine bodyPost_ret (v := .tuple #[.agg #[.bool false, .slice none 0 0, .int .i64 0], .bool false]) ?_ rfl ?_
      · simp [results, Tryd.results34, go_sem, q0, q1, q2]
      · exact ⟨_, 0, _, _, _, _, rfl, .inr ⟨rfl, hno.out⟩, fun h => absurd h (by decide), below_set3 B12 (by omega) _ _ _⟩
    obtain ⟨r, hr⟩ := IsRoot.exists (k := k) (by omega) M
    obtain ⟨is, his⟩ : ∃ is, decide (r ^ k = M) = is := ⟨_, rfl⟩
    have dk : decide ((b : Int) < (k : Int)) = false := decide_eq_false (by omega)
    have dk2 : decide (b < k) = false := decide_eq_false hkb
    have HRT := Lib.hid (fun w v (h : RdN w v (digs BB M)) (hT : Tab w) => root_n (h.num (by omega)) hT sM hk hk2 hr his)
    unfold RootZ at HRT
    have his' := Lib.hid his
    have hr' := Lib.hid hr
    clear hb b1 hM3 hkb his hr
    go_enter Tryd.func34, Tryd.ntmps34
    go_upto_region 1 with fail
    generalize hwx : (w.alloc (.cells #[.bool false, .slice a (digs BB M).length kk, .int .i64 E] 32 (0, 0))).alloc (.cells #[.bool false, .slice none 0 0, .int .i64 0] 32 (0, 0)) = w0 at *
    clear hwx
    obtain ⟨cP0, cP1, cP2, fP0, fP1, fP2, sP⟩ := P.open3
    obtain ⟨cR0, cR1, cR2, fR0, fR1, fR2, sR⟩ := R.open3
    go_upto_region 6 with fail
    have P1 := P.put2 (.int .i64 f)
    have R1 := R.otherP (show w.heap.size + 1 ≠ w.heap.size by omega) 2 (.int .i64 f)
    have x1 := x0.putP P dcells 2 (.int .i64 f)
    have T1 := T0.putP (Nat.ne_of_lt hlt) 2 (.int .i64 f)
    have B1 : Below w.heap.size w (w0.setCell ⟨w.heap.size, 2, none⟩ (.int .i64 f)) := below_set B (Nat.le_refl _) _
    clear cP0 cP1 cP2 fP0 fP1 fP2 sP cR0 cR1 cR2 fR0 fR1 fR2 sR P R x0 T0 B
    generalize w0.setCell ⟨w.heap.size, 2, none⟩ (.int .i64 f) = w1 at *
    obtain ⟨cP0, cP1, cP2, fP0, fP1, fP2, sP⟩ := P1.open3
    obtain ⟨cR0, cR1, cR2, fR0, fR1, fR2, sR⟩ := R1.open3
    go_upto_region 11 with
    (first
      | (go_at_call 37; (with_reducible refine (bits_n (x1.num (by omega)) eb.out).mono ?_); rintro e w11 ⟨rfl, hb11⟩; have B11 := B1.trans (hb11.mono B1.size); have x11 := x1.below hb11; have T11 := T1.below hb11; have P11 := P1.below hb11; have R11 := R1.below hb11; clear x1 T1 P1 R1; obtain ⟨cP0_11, cP1_11, cP2_11, fP0_11, fP1_11, fP2_11, sP_11⟩ := P11.open3; obtain ⟨cR0_11, cR1_11, cR2_11, fR0_11, fR1_11, fR2_11, sR_11⟩ := R11.open3)
      | (go_at_call 37; (with_reducible refine (bits_n (x11.num (by omega)) eb.out).mono ?_); rintro e w12 ⟨rfl, hb12⟩; have B12 := B11.trans (hb12.mono B11.size); have x12 := x11.below hb12; have T12 := T11.below hb12; have P12 := P11.below hb12; have R12 := R11.below hb12; clear x11 T11 P11 R11; clear cP0_11 cP1_11 cP2_11 fP0_11 fP1_11 fP2_11 sP_11; obtain ⟨cP0_12, cP1_12, cP2_12, fP0_12, fP1_12, fP2_12, sP_12⟩ := P12.open3; clear cR0_11 cR1_11 cR2_11 fR0_11 fR1_11 fR2_11 sR_11; obtain ⟨cR0_12, cR1_12, cR2_12, fR0_12, fR1_12, fR2_12, sR_12⟩ := R12.open3)
      | (go_at_call 56; (with_reducible refine (HRT.out _ _ x12 T12).mono ?_); rintro e w13 ⟨vy13, rfl, y13, hb13⟩; have B13 := B12.trans (hb13.mono B12.size); have x13 := x12.below hb13; have T13 := T12.below hb13; have P13 := P12.below hb13; have R13 := R12.below hb13; clear x12 T12 P12 R12; clear cP0_12 cP1_12 cP2_12 fP0_12 fP1_12 fP2_12 sP_12; obtain ⟨cP0_13, cP1_13, cP2_13, fP0_13, fP1_13, fP2_13, sP_13⟩ := P13.open3; clear cR0_12 cR1_12 cR2_12 fR0_12 fR1_12 fR2_12 sR_12; obtain ⟨cR0_13, cR1_13, cR2_13, fR0_13, fR1_13, fR2_13, sR_13⟩ := R13.open3; obtain ⟨ay13, ky13, rfl, -⟩ := y13.view; try simp only [List.length_nil] at y13)
      | fail)
    have P2 := P13.put1 (.slice ay13 (digs BB r).length ky13)
    have R2 := R13.otherP (show w.heap.size + 1 ≠ w.heap.size by omega) 1 (.slice ay13 (digs BB r).length ky13)
    have y2 := y13.putP P13 dcells 1 (.slice ay13 (digs BB r).length ky13)
    have B2 : Below w.heap.size w (w13.setCell ⟨w.heap.size, 1, none⟩ (.slice ay13 (digs BB r).length ky13)) := below_set B13 (Nat.le_refl _) _
    go_upto_region 12 with fail
    generalize w13.setCell ⟨w.heap.size, 1, none⟩ (.slice ay13 (digs BB r).length ky13) = w2 at *
    clear cP0_13 cP1_13 cP2_13 fP0_13 fP1_13 fP2_13 sP_13 cR0_13 cR1_13 cR2_13 fR0_13 fR1_13 fR2_13 sR_13 P13 R13 x13 y13 T13 B13 hb13
    obtain ⟨cP0, cP1, cP2, fP0, fP1, fP2, sP⟩ := P2.open3
    obtain ⟨cR0, cR1, cR2, fR0, fR1, fR2, sR⟩ := R2.open3
    have y3 := y2.set3 R2 dcells (.bool false) (.slice ay13 (digs BB r).length ky13) (.int .i64 f)
    cases is
    · go_wp2_with fail
      obtain ⟨q0, q1, q2, -⟩ := (R2.set3 (.bool false) (.slice ay13 (digs BB r).length ky13) (.int .i64 f)).open3
      refine bodyPost_ret (v := .tuple #[.agg #[.bool false, .slice ay13 (digs BB r).length ky13, .int .i64 f], .bool false]) ?_ rfl ?_
      · simp [results, Tryd.results34, go_sem, q0, q1, q2]
      · refine ⟨_, 0, _, _, _, _, rfl, .inr ⟨rfl, fun r2 f2 h1 _ => of_decide_eq_false his'.out ?_⟩, fun h => absurd h (by decide), below_set3 B2 (by omega) _ _ _⟩
        have hu := hr'.out.uniq (show IsRoot M k r2 from by rw [← h1]; exact IsRoot.pow (by omega))
        rw [hu]; exact h1
    · go_wp2_with fail
      obtain ⟨q0, q1, q2, -⟩ := (R2.set3 (.bool false) (.slice ay13 (digs BB r).length ky13) (.int .i64 f)).open3
      refine bodyPost_ret (v := .tuple #[.agg #[.bool false, .slice ay13 (digs BB r).length ky13, .int .i64 f], .bool true]) ?_ rfl ?_
      · simp [results, Tryd.results34, go_sem, q0, q1, q2]
      · exact ⟨_, r, _, _, _, _, rfl, .inl ⟨rfl, of_decide_eq_true his'.out, hfk'.out⟩, fun _ => y3, below_set3 B2 (by omega) _ _ _⟩
  · have tb : (E.tmod (k : Int) == 0) = false := beq_eq_false_iff_ne.2 tz
    have hno := Lib.hid (show ∀ r (f : Int), r ^ k = M → f * (k : Int) = E → False from fun r f _ h2 => tz (by rw [← h2]; exact Int.mul_tmod_left f k))
    go_enter Tryd.func34, Tryd.ntmps34
    go_upto_region 1 with fail
    generalize hwx : (w.alloc (.cells #[.bool false, .slice a (digs BB M).length kk, .int .i64 E] 32 (0, 0))).alloc (.cells #[.bool false, .slice none 0 0, .int .i64 0] 32 (0, 0)) = w0 at *
    clear hwx
    obtain ⟨cP0, cP1, cP2, fP0, fP1, fP2, sP⟩ := P.open3
    obtain ⟨cR0, cR1, cR2, fR0, fR1, fR2, sR⟩ := R.open3
    go_wp2_with fail
    obtain ⟨q0, q1, q2, -⟩ := (R.set3 (.bool false) (.slice none 0 0) (.int .i64 0)).open3
    refine bodyPost_ret (v := .tuple #[.agg #[.bool false, .slice none 0 0, .int .i64 0], .bool false]) ?_ rfl ?_
    · simp [results, Tryd.results34, go_sem, q0, q1, q2]
    · exact ⟨_, 0, _, _, _, _, rfl, .inr ⟨rfl, hno.out⟩, fun h => absurd h (by decide), below_set3 B (by omega) _ _ _⟩
end Go.Proofs.YtabdmnjdmnnejaaDoor
