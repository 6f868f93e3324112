/- exact.raised by its contract. Conditions: the number is odd and short; math/bits' table stands in its variable. -/
import Derived.Test.YtabdmnjdmnnejaaDoorEx4
import Derived.Test.YtabdmnjdmnnejaaDoorRat5
namespace Go.Proofs.YtabdmnjdmnnejaaDoor
set_option maxRecDepth 100000
open Go.RowKit Go.ChangeShapes Go.WideShapes
set_option linter.unusedVariables false

/-- What is told of r times 2^f to the power m. -/
def RaiseR (r : Nat) (f m : Int) (ok : Bool) (P : Nat) (F : Int) : Prop :=
  (ok = true ∧ Raise r f m P F ∧ P % 2 = 1 ∧ F.natAbs ≤ 4096 ∧ bitN P ≤ 70000) ∨ (ok = false ∧ ∀ P F, Raise r f m P F → isBrk P F = false)
theorem pow_odd {r : Nat} (h : r % 2 = 1) : ∀ m, r ^ m % 2 = 1
  | 0 => rfl
  | m + 1 => by rw [Nat.pow_succ, Nat.mul_mod, pow_odd h m, h]
theorem Raise.odd {r : Nat} {f m : Int} {P : Nat} {F : Int} (h : Raise r f m P F) (ho : r % 2 = 1) : P % 2 = 1 := by
  rcases h.2 with ⟨-, h2⟩ | ⟨-, -, h2⟩
  · rw [h2]; exact pow_odd ho _
  · rw [h2]
theorem pow_bits {r K b : Nat} (hb : bitN r = b + 1) : b * K + 1 ≤ bitN (r ^ K) := by
  have h1 : 2 ^ b ≤ r := by
    rcases Nat.lt_or_ge r (2 ^ b) with h | h
    · have := bitN_le.2 h; omega
    · exact h
  have h2 : 2 ^ (b * K) ≤ r ^ K := by rw [Nat.pow_mul]; exact Nat.pow_le_pow_left h1 K
  have h3 := bitN_mono h2
  rw [bitN_pow2] at h3
  exact h3

set_option maxHeartbeats 4000000 in
theorem raised_n {w : World} {v : Value} {r : Nat} {f m : Int} (h : RdN w v (digs BB r)) (hT : Tab w) (ho : r % 2 = 1) (sr : bitN r ≤ 8192) (r1 : -1073741824 ≤ f) (r2 : f ≤ 1073741824) (m1 : -9223372036854775808 ≤ m) (m2 : m ≤ 9223372036854775807) (hm0 : m ≠ 0) :
    Calls Tryd.prog 35 #[.agg #[.bool false, v, .int .i64 f], .int .i64 m] w (fun e w' => ∃ ok P F a n kk, e = .returned (.tuple #[.agg #[.bool false, .slice a n kk, .int .i64 F], .bool ok]) ∧ RaiseR r f m ok P F ∧ (ok = true → RdN w' (.slice a n kk) (digs BB P)) ∧ Below w.heap.size w w') := by
  obtain ⟨a, kk, rfl, -⟩ := h.view
  have hlt := hT.lt
  have P := blk_a1 (w := w) (T := 32) (c := #[.bool false, .slice a (digs BB r).length kk, .int .i64 f]) (o := .cells #[.bool false, .slice none 0 0, .int .i64 0] 32 (0, 0))
  have R := blk_a2 (w := w) (T := 32) (o := .cells #[.bool false, .slice a (digs BB r).length kk, .int .i64 f] 32 (0, 0)) (c := #[.bool false, .slice none 0 0, .int .i64 0])
  have B : Below w.heap.size w ((w.alloc (.cells #[.bool false, .slice a (digs BB r).length kk, .int .i64 f] 32 (0, 0))).alloc (.cells #[.bool false, .slice none 0 0, .int .i64 0] 32 (0, 0))) := below_2
  have x0 := h.below B; have T0 := hT.below B
  clear h hT
  obtain ⟨b, hb⟩ : ∃ b, bitN r = b := ⟨_, rfl⟩
  have eb := Lib.hid hb
  have ho' := Lib.hid ho
  obtain ⟨rs, hrs⟩ : ∃ rs, decide (f.natAbs * m.natAbs ≤ 4096) = rs := ⟨_, rfl⟩
  have hrs' := Lib.hid hrs
  have HSH := Lib.hid (fun w => shift_n (w := w) (e := f) (m := m) (by omega) (by omega) m1 m2 hrs)
  clear hrs
  cases rs
  · have hno := Lib.hid (show ∀ P F, Raise r f m P F → isBrk P F = false from fun P F hr => by
      have hP := hr.odd ho
      cases hq : isBrk P F
      · rfl
      · exfalso
        have h1 := brk_range (by omega) hq
        have h2 := of_decide_eq_false hrs'.out
        have h3 : F.natAbs = f.natAbs * m.natAbs := by rw [hr.1, Int.natAbs_mul]
        omega)
    simp only [Bool.false_eq_true, if_false] at HSH
    clear hb
    go_enter Tryd.func35, Tryd.ntmps35
    go_upto_region 1 with fail
    generalize hwx : (w.alloc (.cells #[.bool false, .slice a (digs BB r).length kk, .int .i64 f] 32 (0, 0))).alloc (.cells #[.bool false, .slice none 0 0, .int .i64 0] 32 (0, 0)) = w0 at *
    clear hwx
    obtain ⟨cP0, cP1, cP2, fP0, fP1, fP2, sP⟩ := P.open3
    obtain ⟨cR0, cR1, cR2, fR0, fR1, fR2, sR⟩ := R.open3
    go_wp2_with
        (first
          | (go_at_call 57; (with_reducible refine (HSH.out _).mono ?_); rintro e w11 ⟨rfl, rfl⟩)
          | (go_at_call 37; (with_reducible refine (bits_n (x0.num (by omega)) eb.out).mono ?_); rintro e w12 ⟨rfl, hb12⟩; have B12 := B.trans (hb12.mono B.size); have x12 := x0.below hb12; have T12 := T0.below hb12; have P12 := P.below hb12; have R12 := R.below hb12; clear x0 T0 P R; obtain ⟨cP0_12, cP1_12, cP2_12, fP0_12, fP1_12, fP2_12, sP_12⟩ := P12.open3; obtain ⟨cR0_12, cR1_12, cR2_12, fR0_12, fR1_12, fR2_12, sR_12⟩ := R12.open3)
          | fail)
    obtain ⟨q0, q1, q2, -⟩ := (R.set3 (.bool false) (.slice none 0 0) (.int .i64 0)).open3
    refine bodyPost_ret (v := .tuple #[.agg #[.bool false, .slice none 0 0, .int .i64 0], .bool false]) ?_ rfl ?_
    · simp [results, Tryd.results35, go_sem, q0, q1, q2]
    · exact ⟨false, 0, 0, _, _, _, rfl, .inr ⟨rfl, hno.out⟩, fun h => absurd h (by decide), below_set3 B (by omega) _ _ _⟩
  simp only [if_true] at HSH
  have rF : (f * m).natAbs ≤ 4096 := by rw [Int.natAbs_mul]; exact of_decide_eq_true hrs'.out
  obtain ⟨F, hF⟩ : ∃ F, f * m = F := ⟨_, rfl⟩
  rw [hF] at HSH rF
  have hF' := Lib.hid hF
  clear hF
  by_cases b1 : b = 1
  · have hr1 : r = 1 := by
      have h2 := bitN_lt r
      rw [hb, b1] at h2
      omega
    have db : ((b : Int) == 1) = true := by rw [b1]; rfl
    have hok := Lib.hid (show RaiseR r f m true r F from .inl ⟨rfl, ⟨hF'.out.symm, by
      by_cases h : 0 ≤ m
      · exact .inl ⟨h, by rw [hr1, Nat.one_pow]⟩
      · exact .inr ⟨by omega, hr1, hr1⟩⟩, ho, rF, by omega⟩)
    clear hb b1 hr1
    go_enter Tryd.func35, Tryd.ntmps35
    go_upto_region 1 with fail
    generalize hwx : (w.alloc (.cells #[.bool false, .slice a (digs BB r).length kk, .int .i64 f] 32 (0, 0))).alloc (.cells #[.bool false, .slice none 0 0, .int .i64 0] 32 (0, 0)) = w0 at *
    clear hwx
    obtain ⟨cP0, cP1, cP2, fP0, fP1, fP2, sP⟩ := P.open3
    obtain ⟨cR0, cR1, cR2, fR0, fR1, fR2, sR⟩ := R.open3
    go_wp2_with
        (first
          | (go_at_call 57; (with_reducible refine (HSH.out _).mono ?_); rintro e w11 ⟨rfl, rfl⟩)
          | (go_at_call 37; (with_reducible refine (bits_n (x0.num (by omega)) eb.out).mono ?_); rintro e w12 ⟨rfl, hb12⟩; have B12 := B.trans (hb12.mono B.size); have x12 := x0.below hb12; have T12 := T0.below hb12; have P12 := P.below hb12; have R12 := R.below hb12; clear x0 T0 P R; obtain ⟨cP0_12, cP1_12, cP2_12, fP0_12, fP1_12, fP2_12, sP_12⟩ := P12.open3; obtain ⟨cR0_12, cR1_12, cR2_12, fR0_12, fR1_12, fR2_12, sR_12⟩ := R12.open3)
          | fail)
    have x3 := x12.set3 R12 dcells (.bool false) (.slice a (digs BB r).length kk) (.int .i64 F)
    obtain ⟨q0, q1, q2, -⟩ := (R12.set3 (.bool false) (.slice a (digs BB r).length kk) (.int .i64 F)).open3
    refine bodyPost_ret (v := .tuple #[.agg #[.bool false, .slice a (digs BB r).length kk, .int .i64 F], .bool true]) ?_ rfl ?_
    · simp [results, Tryd.results35, go_sem, q0, q1, q2]
    · exact ⟨true, r, F, _, _, _, rfl, hok.out, fun _ => x3, below_set3 B12 (by omega) _ _ _⟩
  have db : ((b : Int) == 1) = false := beq_eq_false_iff_ne.2 (by omega)
  have hr3 : 3 ≤ r := by
    have hM1 : r ≠ 1 := fun e => b1 (by rw [← hb, e]; exact bitN_one)
    omega
  by_cases mr : m < 0 ∨ 54 < m
  · have hno := Lib.hid (show ∀ P F, Raise r f m P F → isBrk P F = false from fun P F hr => by
      have hP := hr.odd ho
      rcases hr.2 with ⟨h1, h2⟩ | ⟨-, h2, -⟩
      · cases hq : isBrk P F
        · rfl
        · exfalso
          have h3 := brk_bits (by omega) hq
          have h4 := bits_pow_ge (m := m.toNat) hr3
          rw [← h2] at h4
          omega
      · omega)
    clear hb b1 hr3
    by_cases d0 : m < 0
    · have dm : decide (m < 0) = true := decide_eq_true d0
      clear mr d0
      go_enter Tryd.func35, Tryd.ntmps35
      go_upto_region 1 with fail
      generalize hwx : (w.alloc (.cells #[.bool false, .slice a (digs BB r).length kk, .int .i64 f] 32 (0, 0))).alloc (.cells #[.bool false, .slice none 0 0, .int .i64 0] 32 (0, 0)) = w0 at *
      clear hwx
      obtain ⟨cP0, cP1, cP2, fP0, fP1, fP2, sP⟩ := P.open3
      obtain ⟨cR0, cR1, cR2, fR0, fR1, fR2, sR⟩ := R.open3
      go_wp2_with
        (first
          | (go_at_call 57; (with_reducible refine (HSH.out _).mono ?_); rintro e w11 ⟨rfl, rfl⟩)
          | (go_at_call 37; (with_reducible refine (bits_n (x0.num (by omega)) eb.out).mono ?_); rintro e w12 ⟨rfl, hb12⟩; have B12 := B.trans (hb12.mono B.size); have x12 := x0.below hb12; have T12 := T0.below hb12; have P12 := P.below hb12; have R12 := R.below hb12; clear x0 T0 P R; obtain ⟨cP0_12, cP1_12, cP2_12, fP0_12, fP1_12, fP2_12, sP_12⟩ := P12.open3; obtain ⟨cR0_12, cR1_12, cR2_12, fR0_12, fR1_12, fR2_12, sR_12⟩ := R12.open3)
          | fail)
      obtain ⟨q0, q1, q2, -⟩ := (R12.set3 (.bool false) (.slice none 0 0) (.int .i64 0)).open3
      refine bodyPost_ret (v := .tuple #[.agg #[.bool false, .slice none 0 0, .int .i64 0], .bool false]) ?_ rfl ?_
      · simp [results, Tryd.results35, go_sem, q0, q1, q2]
      · exact ⟨false, 0, 0, _, _, _, rfl, .inr ⟨rfl, hno.out⟩, fun h => absurd h (by decide), below_set3 B12 (by omega) _ _ _⟩
    · have dm : decide (m < 0) = false := decide_eq_false d0
      have dm2 : decide (54 < m) = true := decide_eq_true (by omega)
      clear mr d0
      go_enter Tryd.func35, Tryd.ntmps35
      go_upto_region 1 with fail
      generalize hwx : (w.alloc (.cells #[.bool false, .slice a (digs BB r).length kk, .int .i64 f] 32 (0, 0))).alloc (.cells #[.bool false, .slice none 0 0, .int .i64 0] 32 (0, 0)) = w0 at *
      clear hwx
      obtain ⟨cP0, cP1, cP2, fP0, fP1, fP2, sP⟩ := P.open3
      obtain ⟨cR0, cR1, cR2, fR0, fR1, fR2, sR⟩ := R.open3
      go_wp2_with
        (first
          | (go_at_call 57; (with_reducible refine (HSH.out _).mono ?_); rintro e w11 ⟨rfl, rfl⟩)
          | (go_at_call 37; (with_reducible refine (bits_n (x0.num (by omega)) eb.out).mono ?_); rintro e w12 ⟨rfl, hb12⟩; have B12 := B.trans (hb12.mono B.size); have x12 := x0.below hb12; have T12 := T0.below hb12; have P12 := P.below hb12; have R12 := R.below hb12; clear x0 T0 P R; obtain ⟨cP0_12, cP1_12, cP2_12, fP0_12, fP1_12, fP2_12, sP_12⟩ := P12.open3; obtain ⟨cR0_12, cR1_12, cR2_12, fR0_12, fR1_12, fR2_12, sR_12⟩ := R12.open3)
          | fail)
      obtain ⟨q0, q1, q2, -⟩ := (R12.set3 (.bool false) (.slice none 0 0) (.int .i64 0)).open3
      refine bodyPost_ret (v := .tuple #[.agg #[.bool false, .slice none 0 0, .int .i64 0], .bool false]) ?_ rfl ?_
      · simp [results, Tryd.results35, go_sem, q0, q1, q2]
      · exact ⟨false, 0, 0, _, _, _, rfl, .inr ⟨rfl, hno.out⟩, fun h => absurd h (by decide), below_set3 B12 (by omega) _ _ _⟩
  obtain ⟨K, rfl⟩ : ∃ K : Nat, m = K := ⟨m.toNat, by omega⟩
  have dm : decide ((K : Int) < 0) = false := decide_eq_false (by omega)
  have dm2 : decide (54 < (K : Int)) = false := decide_eq_false (by omega)
  have dm3 : decide (54 < K) = false := decide_eq_false (by omega)
  have q0 : bareD ⟨false, r, 0⟩ = ⟨false, r, 0⟩ := bareD_odd ho (by decide) (by decide)
  by_cases hfit : bitN r * K ≤ 60000
  · obtain ⟨Q, hQ⟩ : ∃ Q, r ^ K = Q := ⟨_, rfl⟩
    have hQo : Q % 2 = 1 := by rw [← hQ]; exact pow_odd ho K
    have sQ : bitN Q ≤ 60001 := by rw [← hQ]; exact Nat.le_trans (bitN_pow_le r K) (by omega)
    have HPW := Lib.hid (fun w v (h : Num w v r) (hT : Tab w) => Pow_ok (k := K) h hT (by decide) (by decide) q0 (by omega) (by decide) hfit (by simp) hQ (show bareD ⟨false && decide (K % 2 = 1), Q, 0 * (K : Int)⟩ = ⟨false, Q, 0⟩ from by rw [Bool.false_and, Int.zero_mul]; exact bareD_odd hQo (by decide) (by decide)) (by decide))
    have hok := Lib.hid (show RaiseR r f K true Q F from .inl ⟨rfl, ⟨hF'.out.symm, .inl ⟨by omega, by rw [Int.toNat_natCast]; exact hQ.symm⟩⟩, hQo, rF, by omega⟩)
    clear hb b1 hr3 mr hQ hQo sQ hfit q0
    go_enter Tryd.func35, Tryd.ntmps35
    go_upto_region 1 with fail
    generalize hwx : (w.alloc (.cells #[.bool false, .slice a (digs BB r).length kk, .int .i64 f] 32 (0, 0))).alloc (.cells #[.bool false, .slice none 0 0, .int .i64 0] 32 (0, 0)) = w0 at *
    clear hwx
    obtain ⟨cP0, cP1, cP2, fP0, fP1, fP2, sP⟩ := P.open3
    obtain ⟨cR0, cR1, cR2, fR0, fR1, fR2, sR⟩ := R.open3
    go_upto_region 9 with
      (first
        | (go_at_call 57; (with_reducible refine (HSH.out _).mono ?_); rintro e w11 ⟨rfl, rfl⟩)
        | (go_at_call 37; (with_reducible refine (bits_n (x0.num (by omega)) eb.out).mono ?_); rintro e w12 ⟨rfl, hb12⟩; have B12 := B.trans (hb12.mono B.size); have x12 := x0.below hb12; have T12 := T0.below hb12; have P12 := P.below hb12; have R12 := R.below hb12; clear x0 T0 P R; obtain ⟨cP0_12, cP1_12, cP2_12, fP0_12, fP1_12, fP2_12, sP_12⟩ := P12.open3; obtain ⟨cR0_12, cR1_12, cR2_12, fR0_12, fR1_12, fR2_12, sR_12⟩ := R12.open3)
        | (go_at_call 58; (with_reducible refine (HPW.out _ _ (x12.num (by omega)) T12).mono ?_); rintro e w13 ⟨vy13, rfl, y13, hb13⟩; have B13 := B12.trans (hb13.mono B12.size); have x13 := x12.below hb13; have T13 := T12.below hb13; have P13 := P12.below hb13; have R13 := R12.below hb13; clear x12 T12 P12 R12; clear cP0_12 cP1_12 cP2_12 fP0_12 fP1_12 fP2_12 sP_12; obtain ⟨cP0_13, cP1_13, cP2_13, fP0_13, fP1_13, fP2_13, sP_13⟩ := P13.open3; clear cR0_12 cR1_12 cR2_12 fR0_12 fR1_12 fR2_12 sR_12; obtain ⟨cR0_13, cR1_13, cR2_13, fR0_13, fR1_13, fR2_13, sR_13⟩ := R13.open3; obtain ⟨ay13, ky13, rfl, -⟩ := y13.view; try simp only [List.length_nil] at y13)
        | fail)
    have C14 : Blk (w13.alloc (.cells #[.bool false, .slice ay13 (digs BB Q).length ky13, .int .i64 0] 32 (0, 0))) w13.heap.size #[.bool false, .slice ay13 (digs BB Q).length ky13, .int .i64 0] := blk_new
    have R14 := R13.below (below_alloc w13 (.cells #[.bool false, .slice ay13 (digs BB Q).length ky13, .int .i64 0] 32 (0, 0)))
    have y14 := y13.below (below_alloc w13 (.cells #[.bool false, .slice ay13 (digs BB Q).length ky13, .int .i64 0] 32 (0, 0)))
    have B14 := below_right B13 (.cells #[.bool false, .slice ay13 (digs BB Q).length ky13, .int .i64 0] 32 (0, 0))
    have neR : w.heap.size + 1 ≠ w13.heap.size := Nat.ne_of_lt R13.1
    have leW : w.heap.size ≤ w13.heap.size := B13.size
    clear cP0_13 cP1_13 cP2_13 fP0_13 fP1_13 fP2_13 sP_13 cR0_13 cR1_13 cR2_13 fR0_13 fR1_13 fR2_13 sR_13 P13 R13 y13 x13 T13 B13 hb13
    obtain ⟨bq, hbq⟩ : ∃ bq, w13.heap.size = bq := ⟨_, rfl⟩
    rw [hbq] at C14 neR leW
    simp only [hbq]
    generalize w13.alloc (.cells #[.bool false, .slice ay13 (digs BB Q).length ky13, .int .i64 0] 32 (0, 0)) = w14 at *
    clear hbq
    have C15 := C14.put2 (.int .i64 F)
    have R15 := R14.otherP neR 2 (.int .i64 F)
    have y15 := y14.putP C14 dcells 2 (.int .i64 F)
    have B15 : Below w.heap.size w (w14.setCell ⟨bq, 2, none⟩ (.int .i64 F)) := below_set B14 leW _
    obtain ⟨cC0, cC1, cC2, fC0, fC1, fC2, sC⟩ := C14.open3
    go_upto_region 10 with fail
    generalize w14.setCell ⟨bq, 2, none⟩ (.int .i64 F) = w15 at *
    clear cC0 cC1 cC2 fC0 fC1 fC2 sC C14 R14 B14
    obtain ⟨cC0, cC1, cC2, fC0, fC1, fC2, sC⟩ := C15.open3
    obtain ⟨cR0, cR1, cR2, fR0, fR1, fR2, sR⟩ := R15.open3
    go_wp2_with fail
    have y16 := y15.set3 R15 dcells (.bool false) (.slice ay13 (digs BB Q).length ky13) (.int .i64 F)
    obtain ⟨q0, q1, q2, -⟩ := (R15.set3 (.bool false) (.slice ay13 (digs BB Q).length ky13) (.int .i64 F)).open3
    refine bodyPost_ret (v := .tuple #[.agg #[.bool false, .slice ay13 (digs BB Q).length ky13, .int .i64 F], .bool true]) ?_ rfl ?_
    · simp [results, Tryd.results35, go_sem, q0, q1, q2]
    · exact ⟨true, Q, F, _, _, _, rfl, hok.out, fun _ => y16, below_set3 B15 (by omega) _ _ _⟩
  · have HPW := Lib.hid (fun w v (h : Num w v r) (hT : Tab w) => Pow_long (m := (K : Int)) h hT (by decide) (by decide) q0 (by decide) (by omega) (by omega) (by rw [Int.natAbs_natCast, decide_eq_false hfit, Bool.false_and]))
    have hno := Lib.hid (show ∀ P F, Raise r f (K : Int) P F → isBrk P F = false from fun P F hr => by
      have hP := hr.odd ho
      rcases hr.2 with ⟨-, h2⟩ | ⟨-, h2, -⟩
      · rw [Int.toNat_natCast] at h2
        cases hq : isBrk P F
        · rfl
        · exfalso
          have h3 := brk_bits (by omega) hq
          obtain ⟨c, hc⟩ : ∃ c, b = c + 1 := ⟨b - 1, by have := bitN_lt r; rw [hb] at this; rcases Nat.eq_zero_or_pos b with h0 | h0; (rw [h0] at this; omega); omega⟩
          rw [hc] at hb
          have h4 := pow_bits (K := K) hb
          rw [← h2] at h4
          rw [hb, Nat.add_mul] at hfit
          omega
      · omega)
    clear hb b1 hr3 mr hfit q0
    go_enter Tryd.func35, Tryd.ntmps35
    go_upto_region 1 with fail
    generalize hwx : (w.alloc (.cells #[.bool false, .slice a (digs BB r).length kk, .int .i64 f] 32 (0, 0))).alloc (.cells #[.bool false, .slice none 0 0, .int .i64 0] 32 (0, 0)) = w0 at *
    clear hwx
    obtain ⟨cP0, cP1, cP2, fP0, fP1, fP2, sP⟩ := P.open3
    obtain ⟨cR0, cR1, cR2, fR0, fR1, fR2, sR⟩ := R.open3
    go_upto_region 9 with
      (first
        | (go_at_call 57; (with_reducible refine (HSH.out _).mono ?_); rintro e w11 ⟨rfl, rfl⟩)
        | (go_at_call 37; (with_reducible refine (bits_n (x0.num (by omega)) eb.out).mono ?_); rintro e w12 ⟨rfl, hb12⟩; have B12 := B.trans (hb12.mono B.size); have x12 := x0.below hb12; have T12 := T0.below hb12; have P12 := P.below hb12; have R12 := R.below hb12; clear x0 T0 P R; obtain ⟨cP0_12, cP1_12, cP2_12, fP0_12, fP1_12, fP2_12, sP_12⟩ := P12.open3; obtain ⟨cR0_12, cR1_12, cR2_12, fR0_12, fR1_12, fR2_12, sR_12⟩ := R12.open3)
        | (go_at_call 58; (with_reducible refine (HPW.out _ _ (x12.num (by omega)) T12).mono ?_); rintro e w13 ⟨rfl, hb13⟩; have B13 := B12.trans (hb13.mono B12.size); have x13 := x12.below hb13; have T13 := T12.below hb13; have P13 := P12.below hb13; have R13 := R12.below hb13; clear x12 T12 P12 R12; clear cP0_12 cP1_12 cP2_12 fP0_12 fP1_12 fP2_12 sP_12; obtain ⟨cP0_13, cP1_13, cP2_13, fP0_13, fP1_13, fP2_13, sP_13⟩ := P13.open3; clear cR0_12 cR1_12 cR2_12 fR0_12 fR1_12 fR2_12 sR_12; obtain ⟨cR0_13, cR1_13, cR2_13, fR0_13, fR1_13, fR2_13, sR_13⟩ := R13.open3)
        | fail)
    have C14 : Blk (w13.alloc (.cells #[.bool false, .slice none 0 0, .int .i64 0] 32 (0, 0))) w13.heap.size #[.bool false, .slice none 0 0, .int .i64 0] := blk_new
    have R14 := R13.below (below_alloc w13 (.cells #[.bool false, .slice none 0 0, .int .i64 0] 32 (0, 0)))
    have B14 := below_right B13 (.cells #[.bool false, .slice none 0 0, .int .i64 0] 32 (0, 0))
    have neR : w.heap.size + 1 ≠ w13.heap.size := Nat.ne_of_lt R13.1
    have leW : w.heap.size ≤ w13.heap.size := B13.size
    clear cP0_13 cP1_13 cP2_13 fP0_13 fP1_13 fP2_13 sP_13 cR0_13 cR1_13 cR2_13 fR0_13 fR1_13 fR2_13 sR_13 P13 R13 x13 T13 B13 hb13
    obtain ⟨bq, hbq⟩ : ∃ bq, w13.heap.size = bq := ⟨_, rfl⟩
    rw [hbq] at C14 neR leW
    simp only [hbq]
    generalize w13.alloc (.cells #[.bool false, .slice none 0 0, .int .i64 0] 32 (0, 0)) = w14 at *
    clear hbq
    have C15 := C14.put2 (.int .i64 F)
    have R15 := R14.otherP neR 2 (.int .i64 F)
    have B15 : Below w.heap.size w (w14.setCell ⟨bq, 2, none⟩ (.int .i64 F)) := below_set B14 leW _
    obtain ⟨cC0, cC1, cC2, fC0, fC1, fC2, sC⟩ := C14.open3
    go_upto_region 10 with fail
    generalize w14.setCell ⟨bq, 2, none⟩ (.int .i64 F) = w15 at *
    clear cC0 cC1 cC2 fC0 fC1 fC2 sC C14 R14 B14
    obtain ⟨cC0, cC1, cC2, fC0, fC1, fC2, sC⟩ := C15.open3
    obtain ⟨cR0, cR1, cR2, fR0, fR1, fR2, sR⟩ := R15.open3
    go_wp2_with fail
    obtain ⟨q0, q1, q2, -⟩ := (R15.set3 (.bool false) (.slice none 0 0) (.int .i64 F)).open3
    refine bodyPost_ret (v := .tuple #[.agg #[.bool false, .slice none 0 0, .int .i64 F], .bool false]) ?_ rfl ?_
    · simp [results, Tryd.results35, go_sem, q0, q1, q2]
    · exact ⟨false, 0, F, _, _, _, rfl, .inr ⟨rfl, hno.out⟩, fun h => absurd h (by decide), below_set3 B15 (by omega) _ _ _⟩
end Go.Proofs.YtabdmnjdmnnejaaDoor
