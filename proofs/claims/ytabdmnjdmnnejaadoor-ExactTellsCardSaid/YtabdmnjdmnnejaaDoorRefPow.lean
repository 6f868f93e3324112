/- planimeterref10.Pow by its contract. Conditions: the number is short. -/
import Derived.Test.YtabdmnjdmnnejaaDoorRefC
import Derived.Test.YtabdmnjdmnnejaaDoorDyC
import Derived.Test.YtabdmnjdmnnejaaDoorRefQuick
import Derived.Deep.RegionHeld3
import Derived.Deep.CutBlock
namespace Go.Proofs.YtabdmnjdmnnejaaDoor
set_option maxRecDepth 100000
open Go.RowKit Go.ChangeShapes Go.WideShapes

set_option maxHeartbeats 1000000 in
theorem RPow_n {w : World} {u : Value} {neg : Bool} {M P : Nat} {E t : Int} {k : Nat} (h : RdD w u (digs DD M)) (hP : M ^ k = P) (ht : E * (k : Int) = t) (s1 : bitN M * k ≤ 60000) (s2 : bitN M ≤ 200000) (s3 : t.natAbs ≤ 200000) (s4 : k ≤ 9223372036854775807) (h0 : M ≠ 0) :
    Calls Tryd.prog 61 #[.agg #[.bool neg, u, .int .i64 E], .int .i64 k] w (fun e w' => ∃ v, e = .returned (.agg #[.bool (neg && decide (k % 2 = 1)), v, .int .i64 t]) ∧ RdD w' v (digs DD P) ∧ Below w.heap.size w w') := by
  obtain ⟨a, kk, rfl, -⟩ := h.view
  have HQ := Lib.hid (fun w v (h : RdD w v (digs DD M)) => rquick_n k h (by omega) (by omega) s4)
  rw [hP] at HQ
  have wt2 : IntKind.i64.wrap t = t := by rw [IntKind.wrap_i64]; omega
  have wt : wrap64 t = t := by unfold wrap64; omega
  have hsn : digs DD M ≠ [] := fun e => h0 ((digs_nil_iff DD_two _).1 e)
  have hsi : ((digs DD M).length : Int) ≠ 0 := by have := List.length_pos_iff.2 hsn; omega
  have hsb : (((digs DD M).length : Int) == 0) = false := beq_false_of_ne hsi
  have hod : (Int.tmod (k : Int) 2 == 1) = decide (k % 2 = 1) := by
    rw [Int.tmod_eq_emod_of_nonneg (by omega)]
    by_cases h : k % 2 = 1
    · rw [decide_eq_true h, show (k : Int) % 2 = 1 by omega]; rfl
    · rw [decide_eq_false h, show (k : Int) % 2 = 0 by omega]; rfl
  obtain ⟨od, hod2⟩ : ∃ od, decide (k % 2 = 1) = od := ⟨_, rfl⟩
  rw [hod2] at hod
  rw [hod2]
  clear hod2
  go_enter Tryd.func61, Tryd.ntmps61
  go_upto_region 3 with fail
  have P0 : Blk ((w.alloc (.cells #[.bool neg, .slice a (digs DD M).length kk, .int .i64 E] 30)).alloc (.cells #[.bool false, .slice none 0 0, .int .i64 0] 30)) w.heap.size #[.bool neg, .slice a (digs DD M).length kk, .int .i64 E] := blk_a1
  have R0 : Blk ((w.alloc (.cells #[.bool neg, .slice a (digs DD M).length kk, .int .i64 E] 30)).alloc (.cells #[.bool false, .slice none 0 0, .int .i64 0] 30)) (w.heap.size + 1) #[.bool false, .slice none 0 0, .int .i64 0] := blk_a2
  have B0 : Below w.heap.size w ((w.alloc (.cells #[.bool neg, .slice a (digs DD M).length kk, .int .i64 E] 30)).alloc (.cells #[.bool false, .slice none 0 0, .int .i64 0] 30)) := below_2
  have m0 : RdD ((w.alloc (.cells #[.bool neg, .slice a (digs DD M).length kk, .int .i64 E] 30)).alloc (.cells #[.bool false, .slice none 0 0, .int .i64 0] 30)) _ _ := h.below B0
  generalize ((w.alloc (.cells #[.bool neg, .slice a (digs DD M).length kk, .int .i64 E] 30)).alloc (.cells #[.bool false, .slice none 0 0, .int .i64 0] 30)) = w0 at *
  generalize hb0 : w.heap.size = b0 at *
  have hAD : Below w0.heap.size w0 w0.drew := below_drewN (Below.refl _ _) 1
  have mD : RdD w0.drew _ _ := m0.below hAD
  have BD : Below b0 w w0.drew := B0.trans (hAD.mono (hb0 ▸ B0.size))
  obtain ⟨cP0_0, cP1_0, cP2_0, fP0_0, fP1_0, fP2_0, sP_0⟩ := (P0.below hAD).open3
  have PD := P0.below hAD; have RD := R0.below hAD
  cases neg
  · refine wp_region_noPanic ?_
    refine wp_region_held_drew (S := (fun w' => w'.cell? ⟨b0, 0, none⟩ = some (.bool false) ∧ w'.cell? ⟨b0, 1, none⟩ = some (.slice a (digs DD M).length kk) ∧ w'.cell? ⟨b0, 2, none⟩ = some (.int .i64 E))) (by kernel_rfl) (by exact ⟨cP0_0, cP1_0, cP2_0⟩) (fun hHeld => ?_)
    refine wpAnyH_take (i := 0) (oi := { dst := some 14, op := _, type := _, pos := _, after := _, guard := _ }) (v := ?v0) rfl (by kernel_rfl) (by kernel_rfl) (by kernel_rfl) (fun _ _ _ h => h) (Or.inl ⟨by rfl, ?hy0⟩) (by assumption) ?rest0
    case hy0 => (intro w hSw; (try dsimp only at hSw); go_simp; (try with_reducible rfl))
    simp only [Act.put, List.setIfInBounds_toArray, List.set_cons_zero, List.set_cons_succ]
    refine wpAnyH_take (i := 1) (oi := { dst := some 15, op := _, type := _, pos := _, after := _, guard := _ }) (v := ?v1) rfl (by kernel_rfl) (by kernel_rfl) (by kernel_rfl) (fun _ _ _ h => h) (Or.inl ⟨by rfl, ?hy1⟩) (by assumption) ?rest1
    case hy1 => (intro w hSw; (try dsimp only at hSw); go_simp; (try with_reducible rfl))
    simp only [Act.put, List.setIfInBounds_toArray, List.set_cons_zero, List.set_cons_succ]
    refine wpAnyH_take (i := 2) (oi := { dst := some 16, op := _, type := _, pos := _, after := _, guard := _ }) (v := ?v2) rfl (by kernel_rfl) (by kernel_rfl) (by kernel_rfl) (fun _ _ _ h => h) (Or.inl ⟨by rfl, ?hy2⟩) (by assumption) ?rest2
    case hy2 => (intro w hSw; (try dsimp only at hSw); go_simp; (try with_reducible rfl))
    simp only [Act.put, List.setIfInBounds_toArray, List.set_cons_zero, List.set_cons_succ]
    refine wpAnyH_take (i := 3) (oi := { dst := some 17, op := _, type := _, pos := _, after := _, guard := _ }) (v := undef) rfl (by kernel_rfl) (by kernel_rfl) (by kernel_rfl) (fun _ _ _ h => h) (Or.inr ⟨by rfl, rfl⟩) (by assumption) ?rest3
    simp only [Act.put, List.setIfInBounds_toArray, List.set_cons_zero, List.set_cons_succ]
    refine wpAnyH_take (i := 4) (oi := { dst := some 18, op := _, type := _, pos := _, after := _, guard := _ }) (v := undef) rfl (by kernel_rfl) (by kernel_rfl) (by kernel_rfl) (fun _ _ _ h => h) (Or.inr ⟨by rfl, rfl⟩) (by assumption) ?rest4
    simp only [Act.put, List.setIfInBounds_toArray, List.set_cons_zero, List.set_cons_succ]
    refine wpAnyH_take (i := 5) (oi := { dst := some 19, op := _, type := _, pos := _, after := _, guard := _ }) (v := undef) rfl (by kernel_rfl) (by kernel_rfl) (by kernel_rfl) (fun _ _ _ h => h) (Or.inr ⟨by rfl, rfl⟩) (by assumption) ?rest5
    simp only [Act.put, List.setIfInBounds_toArray, List.set_cons_zero, List.set_cons_succ]
    refine wpAnyH_take (i := 6) (oi := { dst := some 20, op := _, type := _, pos := _, after := _, guard := _ }) (v := ?v6) rfl (by kernel_rfl) (by kernel_rfl) (by kernel_rfl) (fun _ _ _ h => h) (Or.inl ⟨by rfl, ?hy6⟩) (by assumption) ?rest6
    case hy6 => (intro w hSw; (try dsimp only at hSw); go_simp; (try with_reducible rfl))
    simp only [Act.put, List.setIfInBounds_toArray, List.set_cons_zero, List.set_cons_succ]
    refine wpAnyH_take (i := 7) (oi := { dst := some 21, op := _, type := _, pos := _, after := _, guard := _ }) (v := ?v7) rfl (by kernel_rfl) (by kernel_rfl) (by kernel_rfl) (fun _ _ _ h => h) (Or.inl ⟨by rfl, ?hy7⟩) (by assumption) ?rest7
    case hy7 => (intro w hSw; (try dsimp only at hSw); go_simp; (try with_reducible rfl))
    simp only [Act.put, List.setIfInBounds_toArray, List.set_cons_zero, List.set_cons_succ]
    refine wpAnyH_take (i := 8) (oi := { dst := some 22, op := _, type := _, pos := _, after := _, guard := _ }) (v := ?v8) rfl (by kernel_rfl) (by kernel_rfl) (by kernel_rfl) (fun _ _ _ h => h) (Or.inl ⟨by rfl, ?hy8⟩) (by assumption) ?rest8
    case hy8 => (intro w hSw; (try dsimp only at hSw); go_simp; (try with_reducible rfl))
    simp only [Act.put, List.setIfInBounds_toArray, List.set_cons_zero, List.set_cons_succ]
    refine wpAnyH_take (i := 9) (oi := { dst := some 23, op := _, type := _, pos := _, after := _, guard := _ }) (v := ?v9) rfl (by kernel_rfl) (by kernel_rfl) (by kernel_rfl) (fun _ _ _ h => h) (Or.inl ⟨by rfl, ?hy9⟩) (by assumption) ?rest9
    case hy9 => (intro w hSw; (try dsimp only at hSw); go_simp; (try with_reducible rfl))
    simp only [Act.put, List.setIfInBounds_toArray, List.set_cons_zero, List.set_cons_succ]
    refine wpAnyH_take (i := 11) (oi := { dst := some 25, op := _, type := _, pos := _, after := _, guard := _ }) (v := ?v11) rfl (by kernel_rfl) (by kernel_rfl) (by kernel_rfl) (fun _ _ _ h => h) (Or.inl ⟨by rfl, ?hy11⟩) (by assumption) ?rest11
    case hy11 => (intro w hSw; (try dsimp only at hSw); go_simp; (try with_reducible rfl))
    simp only [Act.put, List.setIfInBounds_toArray, List.set_cons_zero, List.set_cons_succ]
    refine wpAnyH_take (i := 12) (oi := { dst := some 26, op := _, type := _, pos := _, after := _, guard := _ }) (v := ?v12) rfl (by kernel_rfl) (by kernel_rfl) (by kernel_rfl) (fun _ _ _ h => h) (Or.inl ⟨by rfl, ?hy12⟩) (by assumption) ?rest12
    case hy12 => (intro w hSw; (try dsimp only at hSw); go_simp; (try with_reducible rfl))
    simp only [Act.put, List.setIfInBounds_toArray, List.set_cons_zero, List.set_cons_succ]
    refine wpAnyH_take (i := 13) (oi := { dst := some 27, op := _, type := _, pos := _, after := _, guard := _ }) (v := ?v13) rfl (by kernel_rfl) (by kernel_rfl) (by kernel_rfl) (fun _ _ _ h => h) (Or.inl ⟨by rfl, ?hy13⟩) (by assumption) ?rest13
    case hy13 => (intro w hSw; (try dsimp only at hSw); go_simp; (try with_reducible rfl))
    simp only [Act.put, List.setIfInBounds_toArray, List.set_cons_zero, List.set_cons_succ]
    refine wpAnyH_take (i := 14) (oi := { dst := some 28, op := _, type := _, pos := _, after := _, guard := _ }) (v := ?v14) rfl (by kernel_rfl) (by kernel_rfl) (by kernel_rfl) (fun _ _ _ h => h) (Or.inl ⟨by rfl, ?hy14⟩) (by assumption) ?rest14
    case hy14 => (intro w hSw; (try dsimp only at hSw); go_simp; (try with_reducible rfl))
    simp only [Act.put, List.setIfInBounds_toArray, List.set_cons_zero, List.set_cons_succ]
    refine wpAnyH_ready (rs := [10]) (by kernel_rfl) (by simp) ?_
    refine AllReadyH.cons (o := { dst := some 24, op := _, type := _, pos := _, after := _, guard := _ }) rfl (fun K hK => ?_) AllReadyH.nil
    go_simp
    (go_at_call 83; (with_reducible refine (HQ.out _ _ mD).mono ?_); rintro e w1 ⟨v1, rfl, z1, hb1⟩; have BX1 := BD.trans (hb1.mono (hb0 ▸ BD.size)); have PX1 := PD.below hb1; have RX1 := RD.below hb1; have c1 := PX1.open3; have c1a := fun x y z => (PX1.other3 (Nat.ne_of_lt (Nat.lt_succ_self b0)) x y z).open3; obtain ⟨cR0, cR1, cR2, fR0, fR1, fR2, sR⟩ := RX1.open3; obtain ⟨a1, k1, rfl, -⟩ := z1.view)
    go_wp2_with fail
    refine hK.out _ _ ⟨c1.1, c1.2.1, c1.2.2.1⟩ (fun hHeld => ?_)
    clear hK K
    refine wpAnyH_take (i := 15) (oi := { dst := some 29, op := _, type := _, pos := _, after := _, guard := _ }) (v := ?v15) rfl (by kernel_rfl) (by kernel_rfl) (by kernel_rfl) (fun _ _ _ h => h) (Or.inl ⟨by rfl, ?hy15⟩) (by assumption) ?rest15
    case hy15 => (intro w hSw; (try dsimp only at hSw); go_simp; (try with_reducible rfl))
    simp only [Act.put, List.setIfInBounds_toArray, List.set_cons_zero, List.set_cons_succ]
    refine wpAnyH_ready (rs := [16]) (by kernel_rfl) (by simp) ?_
    refine AllReadyH.cons (o := { dst := none, op := _, type := _, pos := _, after := _, guard := _ }) rfl (fun K hK => ?_) AllReadyH.nil
    go_simp
    refine hK.out _ _ ⟨(c1a _ _ _).1, (c1a _ _ _).2.1, (c1a _ _ _).2.2.1⟩ (fun hHeld => ?_)
    clear hK K
    refine wpAnyH_done (by kernel_rfl) (NoPanic.normal ?_) _
    all_goals
      go_wp2_with fail
      obtain ⟨q0, q1, q2, -⟩ := (RX1.set3 (.bool false) (.slice a1 (digs DD P).length k1) (.int .i64 t)).open3
      refine bodyPost_ret (v := .agg #[.bool false, .slice a1 (digs DD P).length k1, .int .i64 t]) ?_ rfl ?_
      · simp [results, Tryd.results61, go_sem, q0, q1, q2]
      · exact ⟨_, rfl, z1.set3 RX1 dcells32 _ _ _, hb0 ▸ below_set3b BX1 (by omega) _ _ _⟩
  · go_region_held3 (fun w' => w'.cell? ⟨b0, 0, none⟩ = some (.bool true) ∧ w'.cell? ⟨b0, 1, none⟩ = some (.slice a (digs DD M).length kk) ∧ w'.cell? ⟨b0, 2, none⟩ = some (.int .i64 E)) (first | with_reducible exact ⟨cP0_0, cP1_0, cP2_0⟩ | with_reducible exact ⟨c1.1, c1.2.1, c1.2.2.1⟩ | with_reducible exact ⟨(c1a _ _ _).1, (c1a _ _ _).2.1, (c1a _ _ _).2.2.1⟩)
      (first
        | (go_at_call 83; (with_reducible refine (HQ.out _ _ mD).mono ?_); rintro e w1 ⟨v1, rfl, z1, hb1⟩; have BX1 := BD.trans (hb1.mono (hb0 ▸ BD.size)); have PX1 := PD.below hb1; have RX1 := RD.below hb1; have c1 := PX1.open3; have c1a := fun x y z => (PX1.other3 (Nat.ne_of_lt (Nat.lt_succ_self b0)) x y z).open3; obtain ⟨cR0, cR1, cR2, fR0, fR1, fR2, sR⟩ := RX1.open3; obtain ⟨a1, k1, rfl, -⟩ := z1.view)
        | fail)
    all_goals
      go_wp2_with fail
      obtain ⟨q0, q1, q2, -⟩ := (RX1.set3 (.bool od) (.slice a1 (digs DD P).length k1) (.int .i64 t)).open3
      refine bodyPost_ret (v := .agg #[.bool od, .slice a1 (digs DD P).length k1, .int .i64 t]) ?_ rfl ?_
      · simp [results, Tryd.results61, go_sem, q0, q1, q2]
      · exact ⟨_, rfl, z1.set3 RX1 dcells32 _ _ _, hb0 ▸ below_set3b BX1 (by omega) _ _ _⟩
end Go.Proofs.YtabdmnjdmnnejaaDoor
