/- planimeterlaw13.Thin, Holds by their contracts. Conditions: the numbers are of a middle size. -/
import Derived.Test.YthmaoohjhnpamaaGreatDoorLRef3
import Derived.Test.YthmaoohjhnpamaaGreatDoorLog6
import Derived.Deep.CutBlock
namespace Go.Proofs.YthmaoohjhnpamaaGreatDoor
set_option maxRecDepth 100000
open Go.RowKit Go.ChangeShapes Go.WideShapes
set_option linter.unusedVariables false

theorem cells46 {w : World} {b : Nat} {x0 x1 x2 x3 x4 x5 : Value} (h : Blk w b #[x0, x1, x2, x3, x4, x5]) : w.cell? ⟨b, 0, none⟩ = some x0 ∧ w.cell? ⟨b, 1, none⟩ = some x1 ∧ w.cell? ⟨b, 2, none⟩ = some x2 ∧ w.cell? ⟨b, 3, none⟩ = some x3 ∧ w.cell? ⟨b, 4, none⟩ = some x4 ∧ w.cell? ⟨b, 5, none⟩ = some x5 :=
  ⟨h.open6.1, h.open6.2.1, h.open6.2.2.1, h.open6.2.2.2.1, h.open6.2.2.2.2.1, h.open6.2.2.2.2.2.1⟩

set_option maxHeartbeats 2000000 in
theorem lthin_z {w : World} {x y : Value} {n1 n2 : Bool} {m1 m2 N : Nat} {e1 e2 s : Int} (h : RdN w x (digs BB m1)) (h' : RdN w y (digs BB m2)) (hT : Tab w) (ha : Mid 20000 ⟨n1, m1, e1⟩) (hb : Mid 20000 ⟨n2, m2, e2⟩) (hle : qv ⟨n1, m1, e1⟩ ≤ qv ⟨n2, m2, e2⟩)
    (hw : qv ⟨n2, m2, e2⟩ - qv ⟨n1, m1, e1⟩ ≤ (N : Rat) * pw (-s)) (hN : N < BB) (hN0 : 0 < N) (hs0 : -19000 ≤ s) (hs : s ≤ 19000) :
    Calls Tryz.prog 15 #[.agg #[.bool n1, x, .int .i64 e1, .bool n2, y, .int .i64 e2], .int .u64 (N : Int), .int .i64 s] w (fun e w' => e = .returned (.bool true) ∧ Below w.heap.size w w') := by
  obtain ⟨ax, kx, rfl, -⟩ := h.view
  obtain ⟨ay, ky, rfl, -⟩ := h'.view
  have ws : IntKind.i64.wrap (-s) = -s := by rw [IntKind.wrap_i64]; omega
  have sN : bitN N ≤ 64 := bitN_le.2 (by have : BB = 2 ^ 64 := by decide
                                         omega)
  have mN : Mid 20000 ⟨false, N, -s⟩ := ⟨by dsimp only; omega, by dsimp only; omega, by dsimp only; omega⟩
  have HMI : Hid (∀ (w : World) v, RdN w v (digs BB m1) → Tab w → Calls Tryz.prog 50 #[.agg #[.bool n1, v, .int .i64 e1]] w (fun e w' => ∃ n m x v, e = .returned (.agg #[.bool n, v, .int .i64 x]) ∧ (qv ⟨n, m, x⟩ = -qv ⟨n1, m1, e1⟩ ∧ Mid 20000 ⟨n, m, x⟩ ∧ bareD ⟨n, m, x⟩ = ⟨n, m, x⟩) ∧ RdN w' v (digs BB m) ∧ Below w.heap.size w w')) := Lib.hid (fun w v h hT => by
    have a1 := ha.nums
    exact Minus_v (h.num (by omega)) hT ha (by omega) (by omega))
  have HAD : Hid (∀ (w : World) v u n m x, RdN w v (digs BB m2) → RdN w u (digs BB m) → Tab w → Mid 20000 ⟨n, m, x⟩ → Calls Tryz.prog 49 #[.agg #[.bool n2, v, .int .i64 e2], .agg #[.bool n, u, .int .i64 x]] w (fun e w' => ∃ n' m' x' v, e = .returned (.tuple #[.agg #[.bool n', v, .int .i64 x'], .int .i64 0]) ∧ (qv ⟨n', m', x'⟩ = qv ⟨n2, m2, e2⟩ + qv ⟨n, m, x⟩ ∧ Mid (20000 + 1) ⟨n', m', x'⟩ ∧ bareD ⟨n', m', x'⟩ = ⟨n', m', x'⟩) ∧ RdN w' v (digs BB m') ∧ Below w.heap.size w w')) := Lib.hid (fun w v u n m x h k hT g => by
    have a1 := hb.nums
    have a2 := g.nums
    exact Add_v (h.num (by omega)) (k.num (by omega)) hT hb g (by omega) (by omega))
  go_enter Tryz.func15, Tryz.ntmps15
  go_upto_region 1 with fail
  have I0 : Blk (w.alloc (.cells #[.bool n1, .slice ax (digs BB m1).length kx, .int .i64 e1, .bool n2, .slice ay (digs BB m2).length ky, .int .i64 e2] 34 (0, 0))) w.heap.size #[.bool n1, .slice ax (digs BB m1).length kx, .int .i64 e1, .bool n2, .slice ay (digs BB m2).length ky, .int .i64 e2] := blk_new
  have u0 := h.below (below_alloc w (.cells #[.bool n1, .slice ax (digs BB m1).length kx, .int .i64 e1, .bool n2, .slice ay (digs BB m2).length ky, .int .i64 e2] 34 (0, 0)))
  have v0 := h'.below (below_alloc w (.cells #[.bool n1, .slice ax (digs BB m1).length kx, .int .i64 e1, .bool n2, .slice ay (digs BB m2).length ky, .int .i64 e2] 34 (0, 0)))
  have T0 := hT.below (below_alloc w (.cells #[.bool n1, .slice ax (digs BB m1).length kx, .int .i64 e1, .bool n2, .slice ay (digs BB m2).length ky, .int .i64 e2] 34 (0, 0)))
  have B0 := below_alloc w (.cells #[.bool n1, .slice ax (digs BB m1).length kx, .int .i64 e1, .bool n2, .slice ay (digs BB m2).length ky, .int .i64 e2] 34 (0, 0))
  generalize hwx : w.alloc (.cells #[.bool n1, .slice ax (digs BB m1).length kx, .int .i64 e1, .bool n2, .slice ay (digs BB m2).length ky, .int .i64 e2] 34 (0, 0)) = w0 at *
  clear hwx h h' hT
  go_cut [7, 8] (fun v v8 w' => ∃ nA mA eA aA kA bA, v = .pointer (some ⟨bA, 0, none⟩) ∧ v8 = .int .i64 0 ∧ Blk w' bA #[.bool nA, .slice aA (digs BB mA).length kA, .int .i64 eA] ∧ RdN w' (.slice aA (digs BB mA).length kA) (digs BB mA) ∧ (qv ⟨nA, mA, eA⟩ = qv ⟨n2, m2, e2⟩ + -qv ⟨n1, m1, e1⟩ ∧ Mid 20001 ⟨nA, mA, eA⟩) ∧ w0.heap.size ≤ bA ∧ Below w0.heap.size w0 w')
  case first =>
    have sK : w.heap.size < w0.heap.size := I0.1
    go_region_held3 (fun w' => w'.cell? ⟨w.heap.size, 0, none⟩ = some (.bool n1) ∧ w'.cell? ⟨w.heap.size, 1, none⟩ = some (.slice ax (digs BB m1).length kx) ∧ w'.cell? ⟨w.heap.size, 2, none⟩ = some (.int .i64 e1) ∧ w'.cell? ⟨w.heap.size, 3, none⟩ = some (.bool n2) ∧ w'.cell? ⟨w.heap.size, 4, none⟩ = some (.slice ay (digs BB m2).length ky) ∧ w'.cell? ⟨w.heap.size, 5, none⟩ = some (.int .i64 e2))
      (refine cells46 ?_ <;> (repeat' (first | with_reducible assumption | with_reducible exact blk_new | with_reducible exact blk_a2 | with_reducible exact Below.refl _ _ | with_reducible refine Blk.set3z ?_ _ _ _ | with_reducible refine Blk.other3 ?_ ?_ _ _ _ | with_reducible refine Blk.below ?_ hbo | with_reducible refine Blk.below ?_ hbm | with_reducible refine Blk.next ?_ | with_reducible refine Blk.dr ?_ | with_reducible refine bel_dr ?_ | with_reducible refine bel_set3 ?_ ?_ _ _ _ | with_reducible refine bel_trans ?_ hbo | with_reducible refine bel_trans ?_ hbm | with_reducible refine bel_next ?_ | with_reducible refine RdD.set3z ?_ ?_ _ _ _ | with_reducible refine RdN.set3z ?_ ?_ _ _ _ | with_reducible refine RdD.below ?_ hbo | with_reducible refine RdD.below ?_ hbm | with_reducible refine RdN.below ?_ hbo | with_reducible refine RdN.below ?_ hbm | with_reducible refine RdD.below ?_ (below_alloc _ _) | with_reducible refine RdN.below ?_ (below_alloc _ _) | ((try simp only [size_alloc, size_drew]); omega))))
      (first
        | (go_at_call 50; (with_reducible refine (HMI.out _ _ (RdN.below u0 ?h1) (Tab.below T0 ?hbel)).mono ?_); (case h1 => (repeat' (first | with_reducible assumption | with_reducible exact blk_new | with_reducible exact blk_a2 | with_reducible exact Below.refl _ _ | with_reducible refine Blk.set3z ?_ _ _ _ | with_reducible refine Blk.other3 ?_ ?_ _ _ _ | with_reducible refine Blk.next ?_ | with_reducible refine Blk.dr ?_ | with_reducible refine bel_dr ?_ | with_reducible refine bel_set3 ?_ ?_ _ _ _ | with_reducible refine bel_next ?_ | with_reducible refine RdD.set3z ?_ ?_ _ _ _ | with_reducible refine RdN.set3z ?_ ?_ _ _ _ | with_reducible refine RdD.below ?_ (below_alloc _ _) | with_reducible refine RdN.below ?_ (below_alloc _ _) | ((try simp only [size_alloc, size_drew]); omega)))); (case hbel => (repeat' (first | with_reducible assumption | with_reducible exact blk_new | with_reducible exact blk_a2 | with_reducible exact Below.refl _ _ | with_reducible refine Blk.set3z ?_ _ _ _ | with_reducible refine Blk.other3 ?_ ?_ _ _ _ | with_reducible refine Blk.next ?_ | with_reducible refine Blk.dr ?_ | with_reducible refine bel_dr ?_ | with_reducible refine bel_set3 ?_ ?_ _ _ _ | with_reducible refine bel_next ?_ | with_reducible refine RdD.set3z ?_ ?_ _ _ _ | with_reducible refine RdN.set3z ?_ ?_ _ _ _ | with_reducible refine RdD.below ?_ (below_alloc _ _) | with_reducible refine RdN.below ?_ (below_alloc _ _) | ((try simp only [size_alloc, size_drew]); omega)))); rintro e wo ⟨no, mo, eo, vo, rfl, oo, ro, hbo⟩; have lo := hbo.size; (try simp only [size_drew] at lo); (try simp only [size_alloc] at lo); obtain ⟨ao, ko, rfl, -⟩ := ro.view;
            (first
              | (have N1 : Blk wo w0.heap.size #[.bool false, .slice none 0 0, .int .i64 0] := (Blk.dr blk_new).below hbo; have nb1 := N1.1)
              | skip))
        | (go_at_call 49; (with_reducible refine (HAD.out _ _ _ _ _ _ (RdN.below v0 ?h1) (RdN.below ro ?h2) (Tab.below T0 ?h3) oo.2.1).mono ?_); (case h1 => (repeat' (first | with_reducible assumption | with_reducible exact blk_new | with_reducible exact blk_a2 | with_reducible exact Below.refl _ _ | with_reducible refine Blk.set3z ?_ _ _ _ | with_reducible refine Blk.other3 ?_ ?_ _ _ _ | with_reducible refine Blk.below ?_ hbo | with_reducible refine Blk.next ?_ | with_reducible refine Blk.dr ?_ | with_reducible refine bel_dr ?_ | with_reducible refine bel_set3 ?_ ?_ _ _ _ | with_reducible refine bel_trans ?_ hbo | with_reducible refine bel_next ?_ | with_reducible refine RdD.set3z ?_ ?_ _ _ _ | with_reducible refine RdN.set3z ?_ ?_ _ _ _ | with_reducible refine RdD.below ?_ hbo | with_reducible refine RdN.below ?_ hbo | with_reducible refine RdD.below ?_ (below_alloc _ _) | with_reducible refine RdN.below ?_ (below_alloc _ _) | ((try simp only [size_alloc, size_drew]); omega)))); (case h2 => (repeat' (first | with_reducible assumption | with_reducible exact blk_new | with_reducible exact blk_a2 | with_reducible exact Below.refl _ _ | with_reducible refine Blk.set3z ?_ _ _ _ | with_reducible refine Blk.other3 ?_ ?_ _ _ _ | with_reducible refine Blk.next ?_ | with_reducible refine Blk.dr ?_ | with_reducible refine bel_dr ?_ | with_reducible refine bel_set3 ?_ ?_ _ _ _ | with_reducible refine bel_next ?_ | with_reducible refine RdD.set3z ?_ ?_ _ _ _ | with_reducible refine RdN.set3z ?_ ?_ _ _ _ | with_reducible refine RdD.below ?_ (below_alloc _ _) | with_reducible refine RdN.below ?_ (below_alloc _ _) | ((try simp only [size_alloc, size_drew]); omega)))); (case h3 => (repeat' (first | with_reducible assumption | with_reducible exact blk_new | with_reducible exact blk_a2 | with_reducible exact Below.refl _ _ | with_reducible refine Blk.set3z ?_ _ _ _ | with_reducible refine Blk.other3 ?_ ?_ _ _ _ | with_reducible refine Blk.below ?_ hbo | with_reducible refine Blk.next ?_ | with_reducible refine Blk.dr ?_ | with_reducible refine bel_dr ?_ | with_reducible refine bel_set3 ?_ ?_ _ _ _ | with_reducible refine bel_trans ?_ hbo | with_reducible refine bel_next ?_ | with_reducible refine RdD.set3z ?_ ?_ _ _ _ | with_reducible refine RdN.set3z ?_ ?_ _ _ _ | with_reducible refine RdD.below ?_ hbo | with_reducible refine RdN.below ?_ hbo | with_reducible refine RdD.below ?_ (below_alloc _ _) | with_reducible refine RdN.below ?_ (below_alloc _ _) | ((try simp only [size_alloc, size_drew]); omega)))); rintro e wm ⟨nm, mm, em, vm, rfl, om, rm, hbm⟩; have lm := hbm.size; (try simp only [size_drew] at lm); (try simp only [size_alloc] at lm); obtain ⟨am, km, rfl, -⟩ := rm.view;
            (first
              | (have O1 := N1.below hbm; have ic := O1.open3)
              | (have O1 : Blk wm wo.heap.size #[.bool false, .slice none 0 0, .int .i64 0] := blk_new.below hbm; have ic := O1.open3)
              | (have ic := (blk_new (w := wm) (c := #[.bool false, .slice none 0 0, .int .i64 0]) (T := 32)).open3)))
        | fail)
    all_goals
      go_wp2_with fail
      go_meet
      (try have ob1 := O1.1)
      refine ⟨_, _, _, am, km, _, rfl, rfl, ?_, ?_, ⟨by rw [om.1, oo.1], om.2.1.mono (by omega)⟩, ?_, ?_⟩ <;> (repeat' (first | with_reducible assumption | with_reducible exact blk_new | with_reducible exact blk_a2 | with_reducible exact Below.refl _ _ | with_reducible refine Blk.set3z ?_ _ _ _ | with_reducible refine Blk.other3 ?_ ?_ _ _ _ | with_reducible refine Blk.below ?_ hbo | with_reducible refine Blk.below ?_ hbm | with_reducible refine Blk.next ?_ | with_reducible refine Blk.dr ?_ | with_reducible refine bel_dr ?_ | with_reducible refine bel_set3 ?_ ?_ _ _ _ | with_reducible refine bel_trans ?_ hbo | with_reducible refine bel_trans ?_ hbm | with_reducible refine bel_next ?_ | with_reducible refine RdD.set3z ?_ ?_ _ _ _ | with_reducible refine RdN.set3z ?_ ?_ _ _ _ | with_reducible refine RdD.below ?_ hbo | with_reducible refine RdD.below ?_ hbm | with_reducible refine RdN.below ?_ hbo | with_reducible refine RdN.below ?_ hbm | with_reducible refine RdD.below ?_ (below_alloc _ _) | with_reducible refine RdN.below ?_ (below_alloc _ _) | ((try simp only [size_alloc, size_drew]); omega)))
  case rest =>
    obtain ⟨nA, mA, eA, aA, kA, bA, rfl, rfl, A1, ra, oa, la, hb6⟩ := hcut
    generalize hwy : wc = w1 at *
    clear hwy
    have T1 := T0.below hb6
    have B1 := B0.trans (hb6.mono B0.size)
    have g1 := oa.2.nums
    have g2 := mN.nums
    have hqN : qv ⟨false, N, -s⟩ = (N : Rat) * pw (-s) := by simp only [qv]; grind
    have HSG : Hid (∀ (w : World) v, RdN w v (digs BB mA) → Calls Tryz.prog 17 #[.agg #[.bool nA, v, .int .i64 eA]] w (fun r w' => ∃ s : Int, r = .returned (.int .i64 s) ∧ decide (0 ≤ s) = true ∧ Below w.heap.size w w')) := Lib.hid (fun w v h => Sign_ge (h.num (by omega)) (by rw [oa.1]; grind))
    have HCM : Hid (∀ (w : World) v u, RdN w v (digs BB mA) → RdN w u [N] → Tab w → Calls Tryz.prog 10 #[.agg #[.bool nA, v, .int .i64 eA], .agg #[.bool false, u, .int .i64 (-s)]] w (fun e w' => ∃ c : Int, e = .returned (.int .i64 c) ∧ decide (c ≤ 0) = true ∧ decide (0 < c) = false ∧ Below w.heap.size w w')) := Lib.hid (fun w v u h k hT => Cmp_leq (h.num (by omega)) (k.num1 hN) hT (by omega) (by omega) (by omega) (by omega) (by omega) (by omega) (by rw [oa.1, hqN]; grind))
    clear oa ha hb hle hw mN g1 g2 HMI HAD u0 v0 T0 I0
    obtain ⟨cA0_0, cA1_0, cA2_0, fA0_0, fA1_0, fA2_0, sA_0⟩ := A1.open3
    go_wp2_with
          (first
            | (go_at_call 17; (with_reducible refine (HSG.out _ _ ra).mono ?_); rintro e w21 ⟨c1, rfl, dc1, hb21⟩; have B21 := B1.trans (hb21.mono B1.size); have a21 := ra.below hb21; have T21 := T1.below hb21; have A21 := A1.below hb21; clear ra T1 A1; obtain ⟨cA0_21, cA1_21, cA2_21, fA0_21, fA1_21, fA2_21, sA_21⟩ := A21.open3)
            | (go_at_call 10; (with_reducible refine (HCM.out _ _ _ (a21.below (below_alloc _ _)) ?_ (T21.below (below_alloc _ _))).mono ?_); (exact rd_one (heap_alloc_new _ _) trivial); rintro e w22 ⟨c2, rfl, dc2, dd2, hb22⟩; have hb22' := (below_a hb22); have B22 := B21.trans (hb22'.mono B21.size); have a22 := a21.below hb22'; have T22 := T21.below hb22'; have A22 := A21.below hb22'; clear a21 T21 A21; clear cA0_21 cA1_21 cA2_21 fA0_21 fA1_21 fA2_21 sA_21; obtain ⟨cA0_22, cA1_22, cA2_22, fA0_22, fA1_22, fA2_22, sA_22⟩ := A22.open3)
            | fail)
    go_ret
    exact ⟨rfl, by assumption⟩
theorem lthin_n {w : World} {x y : Value} {n1 n2 : Bool} {m1 m2 N s : Nat} {e1 e2 : Int} (h : RdN w x (digs BB m1)) (h' : RdN w y (digs BB m2)) (hT : Tab w) (ha : Mid 10000 ⟨n1, m1, e1⟩) (hb : Mid 10000 ⟨n2, m2, e2⟩) (hle : qv ⟨n1, m1, e1⟩ ≤ qv ⟨n2, m2, e2⟩)
    (hw : qv ⟨n2, m2, e2⟩ - qv ⟨n1, m1, e1⟩ ≤ (N : Rat) * pw (-(s : Int))) (hN : N < BB) (hN0 : 0 < N) (hs : s ≤ 9000) :
    Calls Tryz.prog 15 #[.agg #[.bool n1, x, .int .i64 e1, .bool n2, y, .int .i64 e2], .int .u64 (N : Int), .int .i64 (s : Int)] w (fun e w' => e = .returned (.bool true) ∧ Below w.heap.size w w') :=
  lthin_z h h' hT (ha.mono (by omega)) (hb.mono (by omega)) hle hw hN hN0 (by omega) (by omega)
end Go.Proofs.YthmaoohjhnpamaaGreatDoor
