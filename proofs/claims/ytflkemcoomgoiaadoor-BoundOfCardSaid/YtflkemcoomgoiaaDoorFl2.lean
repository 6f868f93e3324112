/- round.parts, whole by their contracts. Conditions: the numbers are short; math/bits' table stands in its variable. -/
import Derived.Test.YtflkemcoomgoiaaDoorFl1
import Derived.Test.YtflkemcoomgoiaaDoorQuoE
import Derived.Deep.CutBlock
import Derived.Deep.RegionHeld3
namespace Go.Proofs.YtflkemcoomgoiaaDoor
set_option maxRecDepth 100000
open Go.RowKit Go.ChangeShapes Go.WideShapes

theorem parts_n {w : World} {v : Value} {n h b : Bool} {M q : Nat} {E unit : Int} (hv : RdN w v (digs BB M)) (hT : Tab w) (sM : bitN M ≤ 60000) (e1 : E.natAbs ≤ 4294967296) (e2 : unit.natAbs ≤ 4294967296) (hs : bitN M + (E - unit).toNat ≤ 65536) (hp : partsP M E unit = (q, h, b)) :
    Calls Tryd.prog 78 #[.agg #[.bool n, v, .int .i64 E], .int .i64 unit] w (fun e w' => ∃ v, e = .returned (.tuple #[v, .bool h, .bool b]) ∧ RdN w' v (digs BB q) ∧ Below w.heap.size w w') := by
  have hN := hv.num (by omega)
  obtain ⟨av, kv, rfl, -⟩ := hv.view
  unfold partsP at hp
  by_cases hle : unit ≤ E
  · rw [if_pos hle] at hp
    injection hp with z1 z2; injection z2 with z2 z3
    subst z2 z3
    obtain ⟨s, hsn⟩ : ∃ s : Nat, (E - unit).toNat = s := ⟨_, rfl⟩
    rw [hsn] at z1 hs
    have SH := Lib.hid (fun w v (h : Num w v M) => shl_n h z1 (by rw [Nat.add_comm]; exact hs))
    clear z1
    have hse : unit - E = -(s : Int) := by omega
    have bs : s ≤ 1099511627776 := by omega
    have w3 : -(-(s : Int)) = (s : Int) := Int.neg_neg _
    have d1 : decide (-(s : Int) ≤ 0) = true := decide_eq_true (by omega)
    clear hsn hle e1 e2 hs
    have w1 := wwI (n := -(s : Int)) (by rw [Int.natAbs_neg, Int.natAbs_natCast]; exact bs)
    have w1' := iwI (n := -(s : Int)) (by rw [Int.natAbs_neg, Int.natAbs_natCast]; exact bs)
    have w2 := wwN bs
    have w2' := iwN bs
    clear bs
    go_enter Tryd.func78, Tryd.ntmps78
    go_wp2_with
    (first
      | (go_at_call 65; (with_reducible refine (SH.out _ _ (hN.below (below_alloc _ _))).mono ?_); rintro e w1 ⟨vx1, rfl, x1, hb1⟩; have B1 := (below_alloc _ _).trans (hb1.mono (below_alloc _ _).size); have m1 := ((hN.below (below_alloc _ _))).below hb1; have P1 := ((blk_new)).below hb1; obtain ⟨cP0_1, cP1_1, cP2_1, fP0_1, fP1_1, fP2_1, sP_1⟩ := P1.open3; obtain ⟨ax1, kx1, rfl, -⟩ := x1.view; try simp only [List.length_nil] at x1)
      | fail)
    all_goals
      go_ret3
      exact ⟨_, rfl, x1, by assumption⟩
  · rw [if_neg hle] at hp
    revert hp
    obtain ⟨s, hsn⟩ : ∃ s : Nat, (unit - E).toNat = s := ⟨_, rfl⟩
    obtain ⟨s1, hs1⟩ : ∃ s1 : Nat, s - 1 = s1 := ⟨_, rfl⟩
    have hse : unit - E = (s : Int) := by omega
    have hse1 : (s : Int) - 1 = (s1 : Int) := by omega
    have bs : s ≤ 9223372036854775807 := by omega
    have bs1 : s1 ≤ 9223372036854775807 := by omega
    have bt : s ≤ 1099511627776 := by omega
    have bt1 : s1 ≤ 1099511627776 := by omega
    have d1 : decide ((s : Int) ≤ 0) = false := decide_eq_false (by omega)
    have d2 : s ≠ 0 := by omega
    have sM' : bitN M ≤ 2560000 := by omega
    rw [hsn, hs1]
    clear hsn hle e1 e2 hs1 hs
    intro hp
    injection hp with z1 z2; injection z2 with z2 z3
    have S1 := Lib.hid (fun w v (h : Num w v M) (hT : Tab w) => shr_n h hT z1 bs)
    have S2 := Lib.hid (fun w v (h : Num w v M) (hT : Tab w) => shr_n (C := M / 2 ^ s1) h hT rfl bs1)
    rw [z3] at S2
    obtain ⟨H, hH⟩ : ∃ H, M / 2 ^ s1 = H := ⟨_, rfl⟩
    have sH : bitN H ≤ 2560000 := by rw [← hH]; exact Nat.le_trans (bitN_mono (Nat.div_le_self _ _)) sM'
    rw [hH] at S2 z2
    have OD := Lib.hid (fun w v (h : RdN w v (digs BB H)) => odd_n (h.num sH))
    rw [z2] at OD
    clear z1 z2 z3 hH sH bs bs1
    have w2 := wwN bt
    have w2' := iwN bt
    have w3 := wwN bt1
    have w3' := iwN bt1
    clear bt bt1
    go_enter Tryd.func78, Tryd.ntmps78
    go_wp2_with
    (first
      | (go_at_call 74; (with_reducible refine (S1.out _ _ (hN.below (below_alloc _ _)) (hT.below (below_alloc _ _))).mono ?_); rintro e w1 ⟨vx1, rfl, x1, hb1⟩; have B1 := (below_alloc _ _).trans (hb1.mono (below_alloc _ _).size); have m1 := ((hN.below (below_alloc _ _))).below hb1; have T1 := ((hT.below (below_alloc _ _))).below hb1; have P1 := ((blk_new)).below hb1; obtain ⟨cP0_1, cP1_1, cP2_1, fP0_1, fP1_1, fP2_1, sP_1⟩ := P1.open3; obtain ⟨ax1, kx1, rfl, -⟩ := x1.view; try simp only [List.length_nil] at x1)
      | (go_at_call 74; (with_reducible refine (S2.out _ _ m1 T1).mono ?_); rintro e w2 ⟨vy2, rfl, y2, hb2⟩; have B2 := B1.trans (hb2.mono B1.size); have m2 := m1.below hb2; have T2 := T1.below hb2; have P2 := P1.below hb2; have x2 := x1.below hb2; clear m1 T1 P1 x1; clear cP0_1 cP1_1 cP2_1 fP0_1 fP1_1 fP2_1 sP_1; obtain ⟨cP0_2, cP1_2, cP2_2, fP0_2, fP1_2, fP2_2, sP_2⟩ := P2.open3; obtain ⟨ay2, ky2, rfl, -⟩ := y2.view; try simp only [List.length_nil] at y2)
      | (go_at_call 80; (with_reducible refine (OD.out _ _ y2).mono ?_); rintro e w3 ⟨rfl, rfl⟩)
      | fail)
    all_goals
      go_ret3
      exact ⟨_, rfl, by assumption, by assumption⟩
end Go.Proofs.YtflkemcoomgoiaaDoor
