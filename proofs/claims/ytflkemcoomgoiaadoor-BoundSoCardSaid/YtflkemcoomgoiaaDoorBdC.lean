/- dyad.Of of -746; dyad.Minus of what can be told. Conditions: math/bits' table stands in its variable. -/
import Derived.Test.YtflkemcoomgoiaaDoorBd5
import Derived.BigQuiet
namespace Go.Proofs.YtflkemcoomgoiaaDoor
set_option maxRecDepth 100000
open Go.RowKit Go.ChangeShapes Go.WideShapes

theorem bare746 : bareD ⟨true, 746, 0⟩ = ⟨true, 373, 1⟩ := rfl
theorem rd_lit746 {w : World} {o : Obj} {T : TypeId} {fz : Nat × Nat} : RdN ((w.alloc o).alloc (.cells #[.int .u64 746] T fz)) (.slice (some ⟨w.heap.size + 1, 0, none⟩) 1 1) [746] := rd_lit2 (n := 746)
theorem of746 {w : World} (hT : Tab w) : Calls Tryd.prog 16 #[.int .i64 (-746)] w (fun e w' => ∃ v, e = .returned (.agg #[.bool true, v, .int .i64 1]) ∧ RdN w' v (digs BB 373) ∧ Below w.heap.size w w') := by
  have hX := Lib.hid (fun w v (h : RdN w v [746]) (hT : Tab w) => bare_d (neg := true) (E := 0) (h.num1 (by decide)) hT (by decide) (by decide) bare746)
  have hw : IntKind.u64.wrap (-IntKind.u64.wrap (-746)) = 746 := by rw [IntKind.wrap_u64, IntKind.wrap_u64]; decide
  go_enter Tryd.func16, Tryd.ntmps16
  go_wp2_with
  (first
    | (go_at_call 34; (with_reducible refine (hX.out _ _ (rd_lit746) (hT.below below_2)).mono ?_); rintro e w1 ⟨vd1, rfl, d1, hb1⟩; have B1 := below_2.trans (hb1.mono below_2.size); have m1 := ((rd_lit746)).below hb1; have T1 := ((hT.below below_2)).below hb1; have R1 := ((blk_a1)).below hb1; obtain ⟨cR0_1, cR1_1, cR2_1, fR0_1, fR1_1, fR2_1, sR_1⟩ := R1.open3; obtain ⟨ud1, rfl, d1⟩ := d1; obtain ⟨ad1, kd1, rfl, -⟩ := d1.view)
    | fail)
  obtain ⟨q0, q1, q2, -⟩ := (R1.set3 (.bool true) (.slice ad1 (digs BB 373).length kd1) (.int .i64 1)).open3
  refine bodyPost_ret (v := .agg #[.bool true, .slice ad1 (digs BB 373).length kd1, .int .i64 1]) ?_ rfl ?_
  · simp [results, Tryd.results16, go_sem, q0, q1, q2]
  · exact ⟨_, rfl, d1.set3 R1 dcells _ _ _, below_set3 B1 (Nat.le_refl _) _ _ _⟩

set_option maxHeartbeats 1000000 in
theorem Minus_ok {w : World} {v : Value} {neg n' : Bool} {M M' : Nat} {E E' : Int} (h : Num w v M) (hT : Tab w) (h1 : -9223372036854775808 ≤ E) (h2 : E ≤ 9223372036854775807) (e : bareD ⟨neg, M, E⟩ = ⟨n', M', E'⟩) (hf : fitsE E' = true) (o : M' % 2 = 1) (sM : bitN M' ≤ 2560000) :
    Calls Tryd.prog 27 #[.agg #[.bool neg, v, .int .i64 E]] w (fun e w' => ∃ v, e = .returned (.agg #[.bool (!n'), v, .int .i64 E']) ∧ RdN w' v (digs BB M') ∧ Below w.heap.size w w') := by
  obtain ⟨a, n, k, rfl⟩ := h.slice
  have rF : -1073741824 ≤ E' ∧ E' ≤ 1073741824 := by unfold fitsE at hf; simp at hf; exact hf
  have h0 : M' ≠ 0 := by omega
  have hsn : digs BB M' ≠ [] := fun e => h0 ((digs_nil_iff BB_two _).1 e)
  have hsi : ((digs BB M').length : Int) ≠ 0 := by have := List.length_pos_iff.2 hsn; omega
  have HB := Lib.hid (fun w v (h : Num w v M) (hT : Tab w) => bare_d h hT h1 h2 e)
  have BA := Lib.hid (fun w v (h : RdN w v (digs BB M')) (hT : Tab w) => Bare_ok (h.num sM) hT (by omega) (by omega) (bareD_odd' (neg := !n') (E := E') o (by omega) (by omega)) hf)
  clear e hf rF o sM hsn h0
  go_enter Tryd.func27, Tryd.ntmps27
  go_wp2_with
  (first
    | (go_at_call 34; (with_reducible refine (HB.out _ _ (h.below below_2) (hT.below below_2)).mono ?_); rintro e w1 ⟨vx1, rfl, x1, hb1⟩; have B1 := below_2.trans (hb1.mono below_2.size); have m1 := ((h.below below_2)).below hb1; have T1 := ((hT.below below_2)).below hb1; have P1 := ((blk_a1)).below hb1; have R1 := ((blk_a2)).below hb1; obtain ⟨cP0_1, cP1_1, cP2_1, fP0_1, fP1_1, fP2_1, sP_1⟩ := P1.open3; obtain ⟨cR0_1, cR1_1, cR2_1, fR0_1, fR1_1, fR2_1, sR_1⟩ := R1.open3; obtain ⟨ux1, rfl, x1⟩ := x1; obtain ⟨ax1, kx1, rfl, -⟩ := x1.view)
    | (go_at_call 51; (with_reducible refine (BA.out _ _ (x1.below (below_alloc _ _)) (T1.below (below_alloc _ _))).mono ?_); rintro e w2 ⟨vy2, rfl, y2, hb2⟩; have hb2' := (below_a hb2); have B2 := B1.trans (hb2'.mono B1.size); have m2 := m1.below hb2'; have T2 := T1.below hb2'; have P2 := P1.below hb2'; have R2 := R1.below hb2'; have x2 := x1.below hb2'; clear m1 T1 P1 R1 x1; have Q2 := blk_new.below hb2; clear cP0_1 cP1_1 cP2_1 fP0_1 fP1_1 fP2_1 sP_1; obtain ⟨cP0_2, cP1_2, cP2_2, fP0_2, fP1_2, fP2_2, sP_2⟩ := P2.open3; clear cR0_1 cR1_1 cR2_1 fR0_1 fR1_1 fR2_1 sR_1; obtain ⟨cR0_2, cR1_2, cR2_2, fR0_2, fR1_2, fR2_2, sR_2⟩ := R2.open3; obtain ⟨cQ0_2, cQ1_2, cQ2_2, fQ0_2, fQ1_2, fQ2_2, sQ_2⟩ := Q2.open3; obtain ⟨ay2, ky2, rfl, -⟩ := y2.view; try simp only [List.length_nil] at y2)
    | fail)
  refine bodyPost_ret (v := .agg #[.bool (!n'), .slice ax1 (digs BB M').length kx1, .int .i64 E']) ?_ rfl ?_
  · have q := (Blk.next (o := .cells #[.bool (!n'), .slice ay2 (digs BB M').length ky2, .int .i64 E'] 36 (0, 0)) (R2.set3 (.bool (!n')) (.slice ax1 (digs BB M').length kx1) (.int .i64 E'))).open3
    simp [results, Tryd.results27, go_sem, q.1, q.2.1, q.2.2.1]
  · exact ⟨_, rfl, (x2.set3 R2 dcells _ _ _).below (below_alloc _ _), bel_next (below_set3b B2 (by omega) _ _ _)⟩
end Go.Proofs.YtflkemcoomgoiaaDoor

/- bound.Of by its contract: what ofB tells. Conditions: the numbers are short; math/bits' table stands in its variable. -/
namespace Go.Proofs.YtflkemcoomgoiaaDoor
set_option maxRecDepth 100000
open Go.RowKit Go.ChangeShapes Go.WideShapes

theorem litn {w : World} {T : TypeId} {o o' : Obj} : Num (((w.alloc o).alloc (.cells #[.int .u64 1] T (0, 0))).alloc o') (.slice (some ⟨w.heap.size + 1, 0, none⟩) 1 1) 1 := by
  have h : RdN ((w.alloc o).alloc (.cells #[.int .u64 ((1 : Nat) : Int)] T (0, 0))) (.slice (some ⟨w.heap.size + 1, 0, none⟩) 1 1) [1] := rd_one (heap_new2 _ _ _) trivial
  exact (RdN.num1 h (by decide)).below (below_alloc _ _)

/-- The class of a logarithm, by the orders of its ends. -/
def ofB (s : Int) (rt : Bool) (ca cb cn co : Int) : Int :=
  if s = 0 ∨ rt = false then 0 else if 0 ≤ ca then 1 else if cb ≤ 0 then 2 else if s = 1 ∧ cn < 0 then 3 else if s = -1 ∧ 0 < co then 4 else 0

theorem b355 : bitN 355 ≤ 400000 := Nat.le_trans (bitN_le.2 (show 355 < 2 ^ 9 by decide)) (by decide)
theorem b373 : bitN 373 ≤ 400000 := Nat.le_trans (bitN_le.2 (show 373 < 2 ^ 9 by decide)) (by decide)
theorem bare373 : bareD ⟨true, 373, 1⟩ = ⟨true, 373, 1⟩ := rfl
theorem bareN : bareD ⟨false, 1, -60⟩ = ⟨false, 1, -60⟩ := rfl
theorem bareO : bareD ⟨true, 1, -60⟩ = ⟨true, 1, -60⟩ := rfl

set_option maxHeartbeats 4000000 in
theorem bOf_n {w : World} {v u : Value} {neg neg2 f1 f2 : Bool} {M M2 : Nat} {E E2 c ca cb cn co s k : Int} (h : Num w v M) (h' : Num w u M2) (hT : Tab w) (h1 : -9223372036854775808 ≤ E) (h2 : E ≤ 9223372036854775807) (h3 : -9223372036854775808 ≤ E2) (h4 : E2 ≤ 9223372036854775807)
    (sM : bitN M ≤ 400000) (sM2 : bitN M2 ≤ 400000) (hf1 : fitsE (bareD ⟨neg, M, E⟩).e = f1) (hf2 : fitsE (bareD ⟨neg2, M2, E2⟩).e = f2) (hc : cmpD (bareD ⟨neg, M, E⟩) (bareD ⟨neg2, M2, E2⟩) = c)
    (hca : cmpD (bareD ⟨neg, M, E⟩) ⟨false, 355, 1⟩ = ca) (hcb : cmpD (bareD ⟨neg2, M2, E2⟩) ⟨true, 373, 1⟩ = cb) (hcn : cmpD (bareD ⟨neg2, M2, E2⟩) ⟨false, 1, -60⟩ = cn) (hco : cmpD (bareD ⟨neg, M, E⟩) ⟨true, 1, -60⟩ = co) (hk : ofB s (f1 && f2 && decide (c ≤ 0)) ca cb cn co = k) :
    Calls Tryd.prog 10 #[.agg #[.bool neg, v, .int .i64 E, .bool neg2, u, .int .i64 E2], .int .i64 s] w (fun e w' => e = .returned (.int .i64 k) ∧ Below w.heap.size w w') := by
  obtain ⟨av, nv, kv, rfl⟩ := h.slice
  obtain ⟨au, nu, ku, rfl⟩ := h'.slice
  have RT := Lib.hid (fun w v u (h : Num w v M) (k : Num w u M2) (hT : Tab w) => Right_n h k hT h1 h2 h3 h4 sM sM2 hf1 hf2 hc)
  have CA := Lib.hid (fun w v u (h : Num w v M) (k : RdN w u (digs BB 355)) (hT : Tab w) => Cmp_n h (k.num (Nat.le_trans b355 (by decide))) hT h1 h2 (by decide) (by decide) rfl bare355 sM b355 hca)
  have CB := Lib.hid (fun w v u (h : Num w v M2) (k : RdN w u (digs BB 373)) (hT : Tab w) => Cmp_n h (k.num (Nat.le_trans b373 (by decide))) hT h3 h4 (by decide) (by decide) rfl bare373 sM2 b373 hcb)
  have CN := Lib.hid (fun w v u (h : Num w v M2) (k : Num w u 1) (hT : Tab w) => Cmp_n h k hT h3 h4 (by decide) (by decide) rfl bareN sM2 (by rw [bitN_one]; decide) hcn)
  have CO := Lib.hid (fun w v u (h : Num w v M) (k : RdN w u (digs BB 1)) (hT : Tab w) => Cmp_n h (k.num (by rw [bitN_one]; decide)) hT h1 h2 (by decide) (by decide) rfl bareO sM (by rw [bitN_one]; decide) hco)
  have MN := Lib.hid (fun w v (h : Num w v 1) (hT : Tab w) => Minus_ok h hT (by decide) (by decide) bareN rfl rfl (by rw [bitN_one]; decide))
  obtain ⟨rt, hrt⟩ : ∃ r, (f1 && f2 && decide (c ≤ 0)) = r := ⟨_, rfl⟩
  rw [hrt] at RT hk
  clear hf1 hf2 hc hca hcb hcn hco hrt
  unfold ofB at hk
  by_cases hs0 : s = 0
  · rw [if_pos (.inl hs0)] at hk
    subst hk hs0
    go_enter Tryd.func10, Tryd.ntmps10
    go_wp2
    all_goals
      go_ret
      exact ⟨rfl, below3⟩
  have ds : (s == 0) = false := beq_false_of_ne hs0
  cases rt
  · rw [if_pos (.inr rfl)] at hk
    subst hk
    clear hs0
    go_enter Tryd.func10, Tryd.ntmps10
    go_wp2_with
    (first
      | (go_at_call 26; (with_reducible refine (RT.out _ _ _ (h.below below3) (h'.below below3) (hT.below below3)).mono ?_); rintro e w1 ⟨rfl, hb1⟩; have B1 := below3.trans (hb1.mono below3.size); have m1 := ((h.below below3)).below hb1; have g1 := ((h'.below below3)).below hb1; have l1 := ((litn)).below hb1; have T1 := ((hT.below below3)).below hb1; have P1 := ((blk3a)).below hb1; have Q1 := ((blk3c)).below hb1; obtain ⟨cP0_1, cP1_1, cP2_1, cP3_1, cP4_1, cP5_1, fP0_1, fP1_1, fP2_1, fP3_1, fP4_1, fP5_1, sP_1⟩ := P1.open6; obtain ⟨cQ0_1, cQ1_1, cQ2_1, fQ0_1, fQ1_1, fQ2_1, sQ_1⟩ := Q1.open3)
      | fail)
    all_goals
      go_ret
      exact ⟨rfl, by assumption⟩
  rw [if_neg (by simp [hs0])] at hk
  clear hs0
  go_enter Tryd.func10, Tryd.ntmps10
  go_upto_region 4 with
  (first
    | (go_at_call 26; (with_reducible refine (RT.out _ _ _ (h.below below3) (h'.below below3) (hT.below below3)).mono ?_); rintro e w1 ⟨rfl, hb1⟩; have B1 := below3.trans (hb1.mono below3.size); have m1 := ((h.below below3)).below hb1; have g1 := ((h'.below below3)).below hb1; have l1 := ((litn)).below hb1; have T1 := ((hT.below below3)).below hb1; have P1 := ((blk3a)).below hb1; have Q1 := ((blk3c)).below hb1; obtain ⟨cP0_1, cP1_1, cP2_1, cP3_1, cP4_1, cP5_1, fP0_1, fP1_1, fP2_1, fP3_1, fP4_1, fP5_1, sP_1⟩ := P1.open6; obtain ⟨cQ0_1, cQ1_1, cQ2_1, fQ0_1, fQ1_1, fQ2_1, sQ_1⟩ := Q1.open3)
    | fail)
  have hAD5 : Below w1.heap.size w1 w1.drew := below_drewN (Below.refl _ _) 1
  have m5 := m1.below hAD5; have g5 := g1.below hAD5; have l5 := l1.below hAD5; have T5 := T1.below hAD5; have P5 := P1.below hAD5; have Q5 := Q1.below hAD5
  have B5 := B1.trans (hAD5.mono B1.size)
  obtain ⟨cP0_5, cP1_5, cP2_5, cP3_5, cP4_5, cP5_5, fP0_5, fP1_5, fP2_5, fP3_5, fP4_5, fP5_5, sP_5⟩ := P5.open6
  obtain ⟨cQ0_5, cQ1_5, cQ2_5, fQ0_5, fQ1_5, fQ2_5, sQ_5⟩ := Q5.open3
  by_cases ha : 0 ≤ ca
  · rw [if_pos ha] at hk
    subst hk
    have dc : decide (0 ≤ ca) = true := decide_eq_true ha
    clear ha
    go_region_held3 (fun w' => w'.cell? ⟨w.heap.size, 0, none⟩ = some (.bool neg) ∧ w'.cell? ⟨w.heap.size, 1, none⟩ = some (.slice av nv kv) ∧ w'.cell? ⟨w.heap.size, 2, none⟩ = some (.int .i64 E)) (first | with_reducible exact ⟨cP0_5, cP1_5, cP2_5⟩ | with_reducible exact ⟨cP0_6, cP1_6, cP2_6⟩ | with_reducible exact ⟨cP0_7, cP1_7, cP2_7⟩)
    (first
      | (go_at_call 16; (with_reducible refine (of710 T5).mono ?_); rintro e w6 ⟨vy6, rfl, y6, hb6⟩; have B6 := B5.trans (hb6.mono B5.size); have m6 := m5.below hb6; have g6 := g5.below hb6; have l6 := l5.below hb6; have T6 := T5.below hb6; have P6 := P5.below hb6; have Q6 := Q5.below hb6; clear m5 g5 l5 T5 P5 Q5; obtain ⟨cP0_6, cP1_6, cP2_6, cP3_6, cP4_6, cP5_6, fP0_6, fP1_6, fP2_6, fP3_6, fP4_6, fP5_6, sP_6⟩ := P6.open6; obtain ⟨cQ0_6, cQ1_6, cQ2_6, fQ0_6, fQ1_6, fQ2_6, sQ_6⟩ := Q6.open3; obtain ⟨ay6, ky6, rfl, -⟩ := y6.view; try simp only [List.length_nil] at y6)
      | (go_at_call 17; (with_reducible refine (CA.out _ _ _ m6 y6 T6).mono ?_); rintro e w7 ⟨rfl, hb7⟩; have B7 := B6.trans (hb7.mono B6.size); have m7 := m6.below hb7; have g7 := g6.below hb7; have l7 := l6.below hb7; have T7 := T6.below hb7; have P7 := P6.below hb7; have Q7 := Q6.below hb7; have y7 := y6.below hb7; clear m6 g6 l6 T6 P6 Q6 y6; clear cP0_6 cP1_6 cP2_6 cP3_6 cP4_6 cP5_6 fP0_6 fP1_6 fP2_6 fP3_6 fP4_6 fP5_6 sP_6; obtain ⟨cP0_7, cP1_7, cP2_7, cP3_7, cP4_7, cP5_7, fP0_7, fP1_7, fP2_7, fP3_7, fP4_7, fP5_7, sP_7⟩ := P7.open6; clear cQ0_6 cQ1_6 cQ2_6 fQ0_6 fQ1_6 fQ2_6 sQ_6; obtain ⟨cQ0_7, cQ1_7, cQ2_7, fQ0_7, fQ1_7, fQ2_7, sQ_7⟩ := Q7.open3)
      | fail)
    all_goals
      go_wp2_with fail
      go_ret
      exact ⟨rfl, by assumption⟩
  rw [if_neg ha] at hk
  have dc : decide (0 ≤ ca) = false := decide_eq_false ha
  clear ha
  go_region_held3 (fun w' => w'.cell? ⟨w.heap.size, 0, none⟩ = some (.bool neg) ∧ w'.cell? ⟨w.heap.size, 1, none⟩ = some (.slice av nv kv) ∧ w'.cell? ⟨w.heap.size, 2, none⟩ = some (.int .i64 E)) (first | with_reducible exact ⟨cP0_5, cP1_5, cP2_5⟩ | with_reducible exact ⟨cP0_6, cP1_6, cP2_6⟩ | with_reducible exact ⟨cP0_7, cP1_7, cP2_7⟩)
  (first
    | (go_at_call 16; (with_reducible refine (of710 T5).mono ?_); rintro e w6 ⟨vy6, rfl, y6, hb6⟩; have B6 := B5.trans (hb6.mono B5.size); have m6 := m5.below hb6; have g6 := g5.below hb6; have l6 := l5.below hb6; have T6 := T5.below hb6; have P6 := P5.below hb6; have Q6 := Q5.below hb6; clear m5 g5 l5 T5 P5 Q5; obtain ⟨cP0_6, cP1_6, cP2_6, cP3_6, cP4_6, cP5_6, fP0_6, fP1_6, fP2_6, fP3_6, fP4_6, fP5_6, sP_6⟩ := P6.open6; obtain ⟨cQ0_6, cQ1_6, cQ2_6, fQ0_6, fQ1_6, fQ2_6, sQ_6⟩ := Q6.open3; obtain ⟨ay6, ky6, rfl, -⟩ := y6.view; try simp only [List.length_nil] at y6)
    | (go_at_call 17; (with_reducible refine (CA.out _ _ _ m6 y6 T6).mono ?_); rintro e w7 ⟨rfl, hb7⟩; have B7 := B6.trans (hb7.mono B6.size); have m7 := m6.below hb7; have g7 := g6.below hb7; have l7 := l6.below hb7; have T7 := T6.below hb7; have P7 := P6.below hb7; have Q7 := Q6.below hb7; have y7 := y6.below hb7; clear m6 g6 l6 T6 P6 Q6 y6; clear cP0_6 cP1_6 cP2_6 cP3_6 cP4_6 cP5_6 fP0_6 fP1_6 fP2_6 fP3_6 fP4_6 fP5_6 sP_6; obtain ⟨cP0_7, cP1_7, cP2_7, cP3_7, cP4_7, cP5_7, fP0_7, fP1_7, fP2_7, fP3_7, fP4_7, fP5_7, sP_7⟩ := P7.open6; clear cQ0_6 cQ1_6 cQ2_6 fQ0_6 fQ1_6 fQ2_6 sQ_6; obtain ⟨cQ0_7, cQ1_7, cQ2_7, fQ0_7, fQ1_7, fQ2_7, sQ_7⟩ := Q7.open3)
    | fail)
  go_upto_region 6 with fail
  have hAD10 : Below w7.heap.size w7 w7.drew := below_drewN (Below.refl _ _) 1
  have m10 := m7.below hAD10; have g10 := g7.below hAD10; have l10 := l7.below hAD10; have T10 := T7.below hAD10; have P10 := P7.below hAD10; have Q10 := Q7.below hAD10
  have B10 := B7.trans (hAD10.mono B7.size)
  obtain ⟨cP0_10, cP1_10, cP2_10, cP3_10, cP4_10, cP5_10, fP0_10, fP1_10, fP2_10, fP3_10, fP4_10, fP5_10, sP_10⟩ := P10.open6
  obtain ⟨cQ0_10, cQ1_10, cQ2_10, fQ0_10, fQ1_10, fQ2_10, sQ_10⟩ := Q10.open3
  by_cases hb : cb ≤ 0
  · rw [if_pos hb] at hk
    subst hk
    have db : decide (cb ≤ 0) = true := decide_eq_true hb
    clear hb
    go_region_held3 (fun w' => w'.cell? ⟨w.heap.size, 3, none⟩ = some (.bool neg2) ∧ w'.cell? ⟨w.heap.size, 4, none⟩ = some (.slice au nu ku) ∧ w'.cell? ⟨w.heap.size, 5, none⟩ = some (.int .i64 E2)) (first | with_reducible exact ⟨cP3_10, cP4_10, cP5_10⟩ | with_reducible exact ⟨cP3_11, cP4_11, cP5_11⟩ | with_reducible exact ⟨cP3_12, cP4_12, cP5_12⟩)
    (first
      | (go_at_call 16; (with_reducible refine (of746 T10).mono ?_); rintro e w11 ⟨vz11, rfl, z11, hb11⟩; have B11 := B10.trans (hb11.mono B10.size); have m11 := m10.below hb11; have g11 := g10.below hb11; have l11 := l10.below hb11; have T11 := T10.below hb11; have P11 := P10.below hb11; have Q11 := Q10.below hb11; clear m10 g10 l10 T10 P10 Q10; obtain ⟨cP0_11, cP1_11, cP2_11, cP3_11, cP4_11, cP5_11, fP0_11, fP1_11, fP2_11, fP3_11, fP4_11, fP5_11, sP_11⟩ := P11.open6; obtain ⟨cQ0_11, cQ1_11, cQ2_11, fQ0_11, fQ1_11, fQ2_11, sQ_11⟩ := Q11.open3; obtain ⟨az11, kz11, rfl, -⟩ := z11.view; try simp only [List.length_nil] at z11)
      | (go_at_call 17; (with_reducible refine (CB.out _ _ _ g11 z11 T11).mono ?_); rintro e w12 ⟨rfl, hb12⟩; have B12 := B11.trans (hb12.mono B11.size); have m12 := m11.below hb12; have g12 := g11.below hb12; have l12 := l11.below hb12; have T12 := T11.below hb12; have P12 := P11.below hb12; have Q12 := Q11.below hb12; have z12 := z11.below hb12; clear m11 g11 l11 T11 P11 Q11 z11; clear cP0_11 cP1_11 cP2_11 cP3_11 cP4_11 cP5_11 fP0_11 fP1_11 fP2_11 fP3_11 fP4_11 fP5_11 sP_11; obtain ⟨cP0_12, cP1_12, cP2_12, cP3_12, cP4_12, cP5_12, fP0_12, fP1_12, fP2_12, fP3_12, fP4_12, fP5_12, sP_12⟩ := P12.open6; clear cQ0_11 cQ1_11 cQ2_11 fQ0_11 fQ1_11 fQ2_11 sQ_11; obtain ⟨cQ0_12, cQ1_12, cQ2_12, fQ0_12, fQ1_12, fQ2_12, sQ_12⟩ := Q12.open3)
      | fail)
    all_goals
      go_wp2_with fail
      go_ret
      exact ⟨rfl, by assumption⟩
  rw [if_neg hb] at hk
  have db : decide (cb ≤ 0) = false := decide_eq_false hb
  clear hb
  go_region_held3 (fun w' => w'.cell? ⟨w.heap.size, 3, none⟩ = some (.bool neg2) ∧ w'.cell? ⟨w.heap.size, 4, none⟩ = some (.slice au nu ku) ∧ w'.cell? ⟨w.heap.size, 5, none⟩ = some (.int .i64 E2)) (first | with_reducible exact ⟨cP3_10, cP4_10, cP5_10⟩ | with_reducible exact ⟨cP3_11, cP4_11, cP5_11⟩ | with_reducible exact ⟨cP3_12, cP4_12, cP5_12⟩)
  (first
    | (go_at_call 16; (with_reducible refine (of746 T10).mono ?_); rintro e w11 ⟨vz11, rfl, z11, hb11⟩; have B11 := B10.trans (hb11.mono B10.size); have m11 := m10.below hb11; have g11 := g10.below hb11; have l11 := l10.below hb11; have T11 := T10.below hb11; have P11 := P10.below hb11; have Q11 := Q10.below hb11; clear m10 g10 l10 T10 P10 Q10; obtain ⟨cP0_11, cP1_11, cP2_11, cP3_11, cP4_11, cP5_11, fP0_11, fP1_11, fP2_11, fP3_11, fP4_11, fP5_11, sP_11⟩ := P11.open6; obtain ⟨cQ0_11, cQ1_11, cQ2_11, fQ0_11, fQ1_11, fQ2_11, sQ_11⟩ := Q11.open3; obtain ⟨az11, kz11, rfl, -⟩ := z11.view; try simp only [List.length_nil] at z11)
    | (go_at_call 17; (with_reducible refine (CB.out _ _ _ g11 z11 T11).mono ?_); rintro e w12 ⟨rfl, hb12⟩; have B12 := B11.trans (hb12.mono B11.size); have m12 := m11.below hb12; have g12 := g11.below hb12; have l12 := l11.below hb12; have T12 := T11.below hb12; have P12 := P11.below hb12; have Q12 := Q11.below hb12; have z12 := z11.below hb12; clear m11 g11 l11 T11 P11 Q11 z11; clear cP0_11 cP1_11 cP2_11 cP3_11 cP4_11 cP5_11 fP0_11 fP1_11 fP2_11 fP3_11 fP4_11 fP5_11 sP_11; obtain ⟨cP0_12, cP1_12, cP2_12, cP3_12, cP4_12, cP5_12, fP0_12, fP1_12, fP2_12, fP3_12, fP4_12, fP5_12, sP_12⟩ := P12.open6; clear cQ0_11 cQ1_11 cQ2_11 fQ0_11 fQ1_11 fQ2_11 sQ_11; obtain ⟨cQ0_12, cQ1_12, cQ2_12, fQ0_12, fQ1_12, fQ2_12, sQ_12⟩ := Q12.open3)
    | fail)
  by_cases hs1 : s = 1
  · subst hs1
    by_cases hn : cn < 0
    · rw [if_pos ⟨rfl, hn⟩] at hk
      subst hk
      have dn : decide (cn < 0) = true := decide_eq_true hn
      clear hn
      go_wp2_with
      (first
        | (go_at_call 17; (with_reducible refine (CN.out _ _ _ g12 l12 T12).mono ?_); rintro e w13 ⟨rfl, hb13⟩; have B13 := B12.trans (hb13.mono B12.size); have m13 := m12.below hb13; have g13 := g12.below hb13; have l13 := l12.below hb13; have T13 := T12.below hb13; have P13 := P12.below hb13; have Q13 := Q12.below hb13; clear m12 g12 l12 T12 P12 Q12; obtain ⟨cP0_13, cP1_13, cP2_13, cP3_13, cP4_13, cP5_13, fP0_13, fP1_13, fP2_13, fP3_13, fP4_13, fP5_13, sP_13⟩ := P13.open6; obtain ⟨cQ0_13, cQ1_13, cQ2_13, fQ0_13, fQ1_13, fQ2_13, sQ_13⟩ := Q13.open3)
        | fail)
      all_goals
        go_ret
        exact ⟨rfl, by assumption⟩
    rw [if_neg (fun h => hn h.2), if_neg (fun h => absurd h.1 (by decide))] at hk
    subst hk
    have dn : decide (cn < 0) = false := decide_eq_false hn
    clear hn
    go_upto_region 10 with
    (first
      | (go_at_call 17; (with_reducible refine (CN.out _ _ _ g12 l12 T12).mono ?_); rintro e w13 ⟨rfl, hb13⟩; have B13 := B12.trans (hb13.mono B12.size); have m13 := m12.below hb13; have g13 := g12.below hb13; have l13 := l12.below hb13; have T13 := T12.below hb13; have P13 := P12.below hb13; have Q13 := Q12.below hb13; clear m12 g12 l12 T12 P12 Q12; obtain ⟨cP0_13, cP1_13, cP2_13, cP3_13, cP4_13, cP5_13, fP0_13, fP1_13, fP2_13, fP3_13, fP4_13, fP5_13, sP_13⟩ := P13.open6; obtain ⟨cQ0_13, cQ1_13, cQ2_13, fQ0_13, fQ1_13, fQ2_13, sQ_13⟩ := Q13.open3)
      | fail)
    go_quiet (fail)
    all_goals
      go_wp2_with fail
      go_ret
      exact ⟨rfl, below_drewN (by assumption) _⟩
  have ds1 : (s == 1) = false := beq_false_of_ne hs1
  rw [if_neg (fun h => hs1 h.1)] at hk
  clear hs1
  go_upto_region 10 with fail
  by_cases hs2 : s = -1
  · subst hs2
    have hAD20 : Below w12.heap.size w12 w12.drew := below_drewN (Below.refl _ _) 1
    have m20 := m12.below hAD20; have g20 := g12.below hAD20; have l20 := l12.below hAD20; have T20 := T12.below hAD20; have P20 := P12.below hAD20; have Q20 := Q12.below hAD20
    have B20 := B12.trans (hAD20.mono B12.size)
    obtain ⟨cP0_20, cP1_20, cP2_20, cP3_20, cP4_20, cP5_20, fP0_20, fP1_20, fP2_20, fP3_20, fP4_20, fP5_20, sP_20⟩ := P20.open6
    obtain ⟨cQ0_20, cQ1_20, cQ2_20, fQ0_20, fQ1_20, fQ2_20, sQ_20⟩ := Q20.open3
    by_cases ho : 0 < co
    · rw [if_pos ⟨rfl, ho⟩] at hk
      subst hk
      have do1 : decide (0 < co) = true := decide_eq_true ho
      clear ho
      go_region_held3 (fun w' => (w'.cell? ⟨w.heap.size, 0, none⟩ = some (.bool neg) ∧ w'.cell? ⟨w.heap.size, 1, none⟩ = some (.slice av nv kv) ∧ w'.cell? ⟨w.heap.size, 2, none⟩ = some (.int .i64 E)) ∧ w'.cell? ⟨w.heap.size + 1 + 1, 0, none⟩ = some (.bool false) ∧ w'.cell? ⟨w.heap.size + 1 + 1, 1, none⟩ = some (.slice (some ⟨w.heap.size + 1, 0, none⟩) 1 1) ∧ w'.cell? ⟨w.heap.size + 1 + 1, 2, none⟩ = some (.int .i64 (-60))) (first | with_reducible exact ⟨⟨cP0_20, cP1_20, cP2_20⟩, cQ0_20, cQ1_20, cQ2_20⟩ | with_reducible exact ⟨⟨cP0_21, cP1_21, cP2_21⟩, cQ0_21, cQ1_21, cQ2_21⟩ | with_reducible exact ⟨⟨cP0_22, cP1_22, cP2_22⟩, cQ0_22, cQ1_22, cQ2_22⟩)
      (first
        | (go_at_call 27; (with_reducible refine (MN.out _ _ l20 T20).mono ?_); rintro e w21 ⟨vz21, rfl, z21, hb21⟩; have B21 := B20.trans (hb21.mono B20.size); have m21 := m20.below hb21; have g21 := g20.below hb21; have l21 := l20.below hb21; have T21 := T20.below hb21; have P21 := P20.below hb21; have Q21 := Q20.below hb21; clear m20 g20 l20 T20 P20 Q20; obtain ⟨cP0_21, cP1_21, cP2_21, cP3_21, cP4_21, cP5_21, fP0_21, fP1_21, fP2_21, fP3_21, fP4_21, fP5_21, sP_21⟩ := P21.open6; obtain ⟨cQ0_21, cQ1_21, cQ2_21, fQ0_21, fQ1_21, fQ2_21, sQ_21⟩ := Q21.open3; obtain ⟨az21, kz21, rfl, -⟩ := z21.view; try simp only [List.length_nil] at z21)
        | (go_at_call 17; (with_reducible refine (CO.out _ _ _ m21 z21 T21).mono ?_); rintro e w22 ⟨rfl, hb22⟩; have B22 := B21.trans (hb22.mono B21.size); have m22 := m21.below hb22; have g22 := g21.below hb22; have l22 := l21.below hb22; have T22 := T21.below hb22; have P22 := P21.below hb22; have Q22 := Q21.below hb22; have z22 := z21.below hb22; clear m21 g21 l21 T21 P21 Q21 z21; clear cP0_21 cP1_21 cP2_21 cP3_21 cP4_21 cP5_21 fP0_21 fP1_21 fP2_21 fP3_21 fP4_21 fP5_21 sP_21; obtain ⟨cP0_22, cP1_22, cP2_22, cP3_22, cP4_22, cP5_22, fP0_22, fP1_22, fP2_22, fP3_22, fP4_22, fP5_22, sP_22⟩ := P22.open6; clear cQ0_21 cQ1_21 cQ2_21 fQ0_21 fQ1_21 fQ2_21 sQ_21; obtain ⟨cQ0_22, cQ1_22, cQ2_22, fQ0_22, fQ1_22, fQ2_22, sQ_22⟩ := Q22.open3)
        | fail)
      all_goals
        go_wp2_with fail
        go_ret
        exact ⟨rfl, by assumption⟩
    · rw [if_neg (fun h => ho h.2)] at hk
      subst hk
      have do1 : decide (0 < co) = false := decide_eq_false ho
      clear ho
      go_region_held3 (fun w' => (w'.cell? ⟨w.heap.size, 0, none⟩ = some (.bool neg) ∧ w'.cell? ⟨w.heap.size, 1, none⟩ = some (.slice av nv kv) ∧ w'.cell? ⟨w.heap.size, 2, none⟩ = some (.int .i64 E)) ∧ w'.cell? ⟨w.heap.size + 1 + 1, 0, none⟩ = some (.bool false) ∧ w'.cell? ⟨w.heap.size + 1 + 1, 1, none⟩ = some (.slice (some ⟨w.heap.size + 1, 0, none⟩) 1 1) ∧ w'.cell? ⟨w.heap.size + 1 + 1, 2, none⟩ = some (.int .i64 (-60))) (first | with_reducible exact ⟨⟨cP0_20, cP1_20, cP2_20⟩, cQ0_20, cQ1_20, cQ2_20⟩ | with_reducible exact ⟨⟨cP0_21, cP1_21, cP2_21⟩, cQ0_21, cQ1_21, cQ2_21⟩ | with_reducible exact ⟨⟨cP0_22, cP1_22, cP2_22⟩, cQ0_22, cQ1_22, cQ2_22⟩)
      (first
        | (go_at_call 27; (with_reducible refine (MN.out _ _ l20 T20).mono ?_); rintro e w21 ⟨vz21, rfl, z21, hb21⟩; have B21 := B20.trans (hb21.mono B20.size); have m21 := m20.below hb21; have g21 := g20.below hb21; have l21 := l20.below hb21; have T21 := T20.below hb21; have P21 := P20.below hb21; have Q21 := Q20.below hb21; clear m20 g20 l20 T20 P20 Q20; obtain ⟨cP0_21, cP1_21, cP2_21, cP3_21, cP4_21, cP5_21, fP0_21, fP1_21, fP2_21, fP3_21, fP4_21, fP5_21, sP_21⟩ := P21.open6; obtain ⟨cQ0_21, cQ1_21, cQ2_21, fQ0_21, fQ1_21, fQ2_21, sQ_21⟩ := Q21.open3; obtain ⟨az21, kz21, rfl, -⟩ := z21.view; try simp only [List.length_nil] at z21)
        | (go_at_call 17; (with_reducible refine (CO.out _ _ _ m21 z21 T21).mono ?_); rintro e w22 ⟨rfl, hb22⟩; have B22 := B21.trans (hb22.mono B21.size); have m22 := m21.below hb22; have g22 := g21.below hb22; have l22 := l21.below hb22; have T22 := T21.below hb22; have P22 := P21.below hb22; have Q22 := Q21.below hb22; have z22 := z21.below hb22; clear m21 g21 l21 T21 P21 Q21 z21; clear cP0_21 cP1_21 cP2_21 cP3_21 cP4_21 cP5_21 fP0_21 fP1_21 fP2_21 fP3_21 fP4_21 fP5_21 sP_21; obtain ⟨cP0_22, cP1_22, cP2_22, cP3_22, cP4_22, cP5_22, fP0_22, fP1_22, fP2_22, fP3_22, fP4_22, fP5_22, sP_22⟩ := P22.open6; clear cQ0_21 cQ1_21 cQ2_21 fQ0_21 fQ1_21 fQ2_21 sQ_21; obtain ⟨cQ0_22, cQ1_22, cQ2_22, fQ0_22, fQ1_22, fQ2_22, sQ_22⟩ := Q22.open3)
        | fail)
      all_goals
        go_wp2_with fail
        go_ret
        exact ⟨rfl, by assumption⟩
  rw [if_neg (fun h => hs2 h.1)] at hk
  subst hk
  have ds2 : (s == -1) = false := beq_false_of_ne hs2
  go_quiet (fail)
  all_goals
    go_wp2_with fail
    go_ret
    exact ⟨rfl, below_drewN (by assumption) _⟩
end Go.Proofs.YtflkemcoomgoiaaDoor

/- planimeterlaw15.Of, Near by their contracts. Conditions: none. -/
namespace Go.Proofs.YtflkemcoomgoiaaDoor
set_option maxRecDepth 100000
open Go.RowKit Go.ChangeShapes Go.WideShapes

theorem of15_n {w : World} {b1 b2 : Bool} {a1 a2 : Option Addr} {n1 k1 n2 k2 : Nat} {E1 E2 : Int} :
    Calls Tryd.prog 11 #[.agg #[.bool b1, .slice a1 n1 k1, .int .i64 E1, .bool b2, .slice a2 n2 k2, .int .i64 E2]] w (fun e w' => e = .returned (.agg #[.bool b1, .slice a1 n1 k1, .int .i64 E1, .bool b2, .slice a2 n2 k2, .int .i64 E2]) ∧ Below w.heap.size w w') := by
  go_enter Tryd.func11, Tryd.ntmps11
  go_wp2
  all_goals
    refine bodyPost_ret (v := .agg #[.bool b1, .slice a1 n1 k1, .int .i64 E1, .bool b2, .slice a2 n2 k2, .int .i64 E2]) ?_ rfl ?_
    · simp [results, Tryd.results11, go_sem]
    · exact ⟨rfl, below_2⟩

def nearB (n : Nat) (E : Int) : Prop := n ≤ 10 ∧ -3000 ≤ E ∧ E ≤ 3000
set_option maxHeartbeats 2000000 in
theorem near15_n {w : World} {b1 b2 : Bool} {a1 a2 : Option Addr} {n1 k1 n2 k2 : Nat} {E1 E2 : Int} :
    Calls Tryd.prog 7 #[.agg #[.bool b1, .slice a1 n1 k1, .int .i64 E1, .bool b2, .slice a2 n2 k2, .int .i64 E2]] w (fun e w' => ∃ r, e = .returned (.bool r) ∧ (r = true → nearB n1 E1 ∧ nearB n2 E2) ∧ Below w.heap.size w w') := by
  go_enter Tryd.func7, Tryd.ntmps7
  go_wp2
  go_loop [4] (fun i => ∃ k : Nat, i = .int .i64 k ∧ k ≤ 2 ∧ (1 ≤ k → nearB n1 E1) ∧ (2 ≤ k → nearB n2 E2)) (fun i => 2 - (intOf i).toNat)
  case atStart => exact ⟨0, rfl, by omega, by omega, by omega⟩
  case round =>
    obtain ⟨k, rfl, hk, h1, h2⟩ := hrel
    rcases (show k = 0 ∨ k = 1 ∨ k = 2 by omega) with rfl | rfl | rfl
    · by_cases q1 : 10 < n1
      · have d1 : decide (10 < (n1 : Int)) = true := decide_eq_true (by omega)
        clear h1 h2 hk
        go_wp2_with fail
        all_goals
          go_ret
          exact .inl ⟨rfl, below_2⟩
      have d1 : decide (10 < (n1 : Int)) = false := decide_eq_false (by omega)
      by_cases q2 : E1 < -3000
      · have d2 : decide (E1 < -3000) = true := decide_eq_true q2
        clear h1 h2 hk
        go_wp2_with fail
        all_goals
          go_ret
          exact .inl ⟨rfl, below_2⟩
      have d2 : decide (E1 < -3000) = false := decide_eq_false q2
      by_cases q3 : 3000 < E1
      · have d3 : decide (3000 < E1) = true := decide_eq_true q3
        clear h1 h2 hk
        go_wp2_with fail
        all_goals
          go_ret
          exact .inl ⟨rfl, below_2⟩
      have d3 : decide (3000 < E1) = false := decide_eq_false q3
      have hn : nearB n1 E1 := ⟨by omega, by omega, by omega⟩
      have H1 := Lib.hid h1
      clear h1 h2 hk q1 q2 q3
      go_wp2_with fail
      go_round
      case rel => exact ⟨1, by go_num, by omega, fun _ => hn, fun h => absurd h (by omega)⟩
      case measure => simp [intOf]
    · by_cases q1 : 10 < n2
      · have d1 : decide (10 < (n2 : Int)) = true := decide_eq_true (by omega)
        clear h1 h2 hk
        go_wp2_with fail
        all_goals
          go_ret
          exact .inl ⟨rfl, below_2⟩
      have d1 : decide (10 < (n2 : Int)) = false := decide_eq_false (by omega)
      by_cases q2 : E2 < -3000
      · have d2 : decide (E2 < -3000) = true := decide_eq_true q2
        clear h1 h2 hk
        go_wp2_with fail
        all_goals
          go_ret
          exact .inl ⟨rfl, below_2⟩
      have d2 : decide (E2 < -3000) = false := decide_eq_false q2
      by_cases q3 : 3000 < E2
      · have d3 : decide (3000 < E2) = true := decide_eq_true q3
        clear h1 h2 hk
        go_wp2_with fail
        all_goals
          go_ret
          exact .inl ⟨rfl, below_2⟩
      have d3 : decide (3000 < E2) = false := decide_eq_false q3
      have hn : nearB n2 E2 := ⟨by omega, by omega, by omega⟩
      have H1 := Lib.hid h1
      clear h1 h2 hk q1 q2 q3
      go_wp2_with fail
      go_round
      case rel => exact ⟨2, by go_num, by omega, fun _ => H1.out (by omega), fun _ => hn⟩
      case measure => simp [intOf]
    · have hn1 := h1 (by omega)
      have hn2 := h2 (by omega)
      clear h1 h2 hk
      go_wp2_with fail
      all_goals
        go_ret
        exact ⟨.inr rfl, below_2⟩
end Go.Proofs.YtflkemcoomgoiaaDoor
