/- exact.Low by its contract. Conditions: ints are int64s. -/
import Derived.Test.YtabdmnjdmnnejaaDoorEx1
import Derived.Test.YtabdmnjdmnnejaaDoorDyA
import Derived.Deep.RegionHeld3
import Derived.Deep.CutBlock
namespace Go.Proofs.YtabdmnjdmnnejaaDoor
set_option maxRecDepth 100000
open Go.RowKit Go.ChangeShapes Go.WideShapes
set_option linter.unusedVariables false

theorem Low_arg {w : World} {M K : Int} (hK : K < 1) :
    Calls Tryd.prog 26 #[.agg #[.int .i64 M, .int .i64 K]] w (fun e w' => e = .returned (.tuple #[.agg #[.int .i64 0, .int .i64 0], .int .i64 1]) ∧ Below w.heap.size w w') := by
  have d1 : decide (K < 1) = true := decide_eq_true hK
  have R := (blk_a2 (w := w) (T := 36) (o := .cells #[.int .i64 M, .int .i64 K] 36 (0, 0)) (c := #[.int .i64 0, .int .i64 0]))
  have B0 : Below w.heap.size w ((w.alloc (.cells #[.int .i64 M, .int .i64 K] 36 (0, 0))).alloc (.cells #[.int .i64 0, .int .i64 0] 36 (0, 0))) := below_2
  obtain ⟨z0, z1, -⟩ := R.open2
  go_enter Tryd.func26, Tryd.ntmps26
  go_wp2_with fail
  refine bodyPost_ret (v := .tuple #[.agg #[.int .i64 0, .int .i64 0], .int .i64 1]) ?_ rfl ?_
  · simp [results, Tryd.results26, go_sem, z0, z1]
  · exact ⟨rfl, B0⟩

set_option maxHeartbeats 2000000 in
theorem Low_ok {w : World} {M K m k : Int} {g : Nat} (h1 : -9223372036854775808 ≤ M) (h2 : M ≤ 9223372036854775807) (hK : 1 ≤ K) (hK2 : K ≤ 9223372036854775807) (hg : Nat.gcd M.natAbs K.toNat = g) (eM : M = m * (g : Int)) (eK : K = k * (g : Int)) :
    Calls Tryd.prog 26 #[.agg #[.int .i64 M, .int .i64 K]] w (fun e w' => e = .returned (.tuple #[.agg #[.int .i64 m, .int .i64 k], .int .i64 0]) ∧ Below w.heap.size w w') := by
  obtain ⟨N, rfl⟩ : ∃ N : Nat, K = N := ⟨K.toNat, by omega⟩
  rw [Int.toNat_natCast] at hg
  have d1 : decide ((N : Int) < 1) = false := decide_eq_false (by omega)
  have hm0 : 0 < m → 0 < M := fun h => by rw [eM]; exact Int.mul_pos h (by have : g ≠ 0 := (fun e => by rw [e, Int.natCast_zero, Int.mul_zero] at eK; omega); omega)
  have hg0 : g ≠ 0 := fun e => by rw [e, Int.natCast_zero, Int.mul_zero] at eK; omega
  have hgK : g ≤ N := by rw [← hg]; exact Nat.gcd_le_right _ (by omega)
  have qM := Lib.hid (show M.tdiv (g : Int) = m by rw [eM]; exact Int.mul_tdiv_cancel _ (by omega))
  have qK := Lib.hid (show (N : Int).tdiv (g : Int) = k by rw [eK]; exact Int.mul_tdiv_cancel _ (by omega))
  have rm : (m.natAbs) ≤ M.natAbs := by rw [eM, Int.natAbs_mul]; exact Nat.le_mul_of_pos_right _ (by omega)
  have rk : k.natAbs ≤ (N : Int).natAbs := by rw [eK, Int.natAbs_mul]; exact Nat.le_mul_of_pos_right _ (by omega)
  have wm : IntKind.i64.wrap m = m := by rw [IntKind.wrap_i64]; omega
  have wk : IntKind.i64.wrap k = k := by rw [IntKind.wrap_i64]; omega
  have wg : IntKind.i64.wrap (g : Int) = (g : Int) := by rw [IntKind.wrap_i64]; omega
  have wK : IntKind.u64.wrap (N : Int) = (N : Int) := by rw [IntKind.wrap_u64]; omega
  have HE := Lib.hid (fun w => esize_n (w := w) h1 h2)
  have P := blk_a1 (w := w) (T := 36) (c := #[.int .i64 M, .int .i64 (N : Int)]) (o := .cells #[.int .i64 0, .int .i64 0] 36 (0, 0))
  have R := blk_a2 (w := w) (T := 36) (o := .cells #[.int .i64 M, .int .i64 (N : Int)] 36 (0, 0)) (c := #[.int .i64 0, .int .i64 0])
  have B : Below w.heap.size w ((w.alloc (.cells #[.int .i64 M, .int .i64 (N : Int)] 36 (0, 0))).alloc (.cells #[.int .i64 0, .int .i64 0] 36 (0, 0))) := below_2
  have hg' := Lib.hid hg
  clear eM eK hg rm rk hm0
  go_enter Tryd.func26, Tryd.ntmps26
  go_upto_region 3 with fail
  generalize hwx : (w.alloc (.cells #[.int .i64 M, .int .i64 (N : Int)] 36 (0, 0))).alloc (.cells #[.int .i64 0, .int .i64 0] 36 (0, 0)) = w0 at *
  clear hwx
  have Dw : Below w0.heap.size w0 w0.drew := below_drewN (Below.refl _ _) 1
  have Pd := P.below Dw; have Rd := R.below Dw; have Bd := B.trans (Dw.mono B.size)
  obtain ⟨cP0, cP1, fP0, fP1, sP⟩ := Pd.open2
  go_cut [4, 5] (fun a b w' => a = L64 M.natAbs ∧ b = L64 N ∧ w' = w0.drew)
  case first =>
    go_region_with (first | (go_at_call 51; (with_reducible refine (HE.out _).mono ?_); rintro e y1 ⟨rfl, rfl⟩) | fail)
    all_goals
      go_wp2_with fail
      go_meet
      exact ⟨rfl, rfl, rfl⟩
  case rest =>
    obtain ⟨rfl, rfl, hw⟩ := hcut
    subst hw
    have hN := Lib.hid hK2
    go_wp2_with fail
    go_loopw [4, 5] (fun a b wr => ∃ x y : Nat, a = L64 x ∧ b = L64 y ∧ Nat.gcd x y = g ∧ x ≤ 9223372036854775808 ∧ y ≤ 9223372036854775808 ∧ Below w0.drew.heap.size w0.drew wr) (fun _ b _ => (intOf b).toNat)
    case atStart => exact ⟨M.natAbs, N, rfl, rfl, hg'.out, by omega, by omega, Below.refl _ _⟩
    case round =>
      obtain ⟨x, y, rfl, rfl, h3, h4, h5, hB⟩ := hrel
      have P1 := Pd.below hB; have R1 := Rd.below hB; have B1 := Bd.trans (hB.mono Bd.size)
      have hB' := Lib.hid hB
      clear hB cP0 cP1 fP0 fP1 sP Bd Pd Rd P R
      have h3' := Lib.hid h3
      clear h3
      by_cases hy : y = 0
      · subst hy
        obtain rfl : x = g := by rw [← h3'.out, Nat.gcd_zero_right]
        go_upto_region 6 with fail
        have qM' := qM.out; have qK' := qK.out
        have gz : (x : Int) ≠ 0 := by omega
        obtain ⟨cP0, cP1, fP0, fP1, sP⟩ := P1.open2
        go_still_tail 10, (by kernel_rfl)
        repeat still_step
        rename World => wr
        change wpList _ _ _ _ _ wr.drew
        have DD' : Below wr.heap.size wr wr.drew := below_drewN (Below.refl _ _) 1
        have R2 := R1.below DD'; have B2 := B1.trans (DD'.mono B1.size)
        clear cP0 cP1 fP0 fP1 sP P1 R1 B1 DD'
        generalize wr.drew = w2 at *
        obtain ⟨cR0, cR1, fR0, fR1, sR⟩ := R2.open2
        go_wp2_with fail
        obtain ⟨z0, z1, -⟩ := (R2.set2 (.int .i64 m) (.int .i64 k)).open2
        refine bodyPost_ret (v := .tuple #[.agg #[.int .i64 m, .int .i64 k], .int .i64 0]) ?_ rfl ?_
        · simp [results, Tryd.results26, go_sem, z0, z1]
        · exact ⟨rfl, below_set (below_set B2 (by omega) _) (by omega) _⟩
      · have dy : decide (0 < (y : Int)) = true := decide_eq_true (by omega)
        have dy2 : decide (0 < y) = true := decide_eq_true (by omega)
        have yz : (y : Int) ≠ 0 := by omega
        have hlt := Nat.mod_lt x (show 0 < y by omega)
        have wr : IntKind.u64.wrap (((x % y : Nat)) : Int) = ((x % y : Nat) : Int) := by rw [IntKind.wrap_u64]; omega
        have xm : (x : Int).tmod (y : Int) = ((x % y : Nat) : Int) := Int.ofNat_tmod x y
        go_wp2_with fail
        go_big_region
        all_goals
          go_wp2_with fail
          go_round
          case rel => exact ⟨y, x % y, rfl, rfl, by rw [← h3'.out, Nat.gcd_comm x y, Nat.gcd_rec y x, Nat.gcd_comm], h5, by omega, hB'.out.trans ((below_drewN (Below.refl _ _) 1).mono hB'.out.size)⟩
          case measure => exact hlt
end Go.Proofs.YtabdmnjdmnnejaaDoor
