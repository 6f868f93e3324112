/- Chapter 14's law: right, far, of, minus by their contracts. Conditions: the number is short. (Only in the seat of ExpsTell: set expsz; printed by wip/gen/gen_et1.py.) -/
import Derived.Test.YthmaoohjhnpamaaGreatDoorRE2
import Derived.Test.YthmaoohjhnpamaaGreatDoorLRef5
import Derived.Test.YthmaoohjhnpamaaGreatDoorEp3
import Derived.Test.YthmaoohjhnpamaaGreatDoorRefBig
import Derived.Test.YthmaoohjhnpamaaGreatDoorDyMul
import Derived.Deep.RegionHeld3
namespace Go.Proofs.YthmaoohjhnpamaaGreatDoor
set_option maxRecDepth 100000
open Go.RowKit Go.ChangeShapes Go.WideShapes
set_option linter.unusedVariables false
set_option linter.unusedSimpArgs false

theorem getOf {L : List Oper} {k : Nat} {o : Oper} {r : List Oper} (h : L.drop k = o :: r) : (L.toArray)[k]? = some o := by
  rw [List.getElem?_toArray]
  have h2 : (L.drop k)[0]? = some o := by rw [h]; rfl
  rwa [List.getElem?_drop, Nat.add_zero] at h2

theorem of14_n {w : World} {v : Value} {neg n' : Bool} {M M' : Nat} {E E' : Int} (h : NumB w v M) (h1 : -9223372036854775808 ≤ E) (h2 : E ≤ 9223372036854775807) (e : bareD ⟨neg, M, E⟩ = ⟨n', M', E'⟩) :
    Calls Tryz.prog 5 #[.agg #[.bool neg, v, .int .i64 E]] w (fun e w' => ∃ u, e = .returned (.agg #[.bool n', u, .int .i64 E']) ∧ RdD w' u (digs DD M') ∧ Below w.heap.size w w') := by
  obtain ⟨a, n, k, rfl⟩ := h.slice
  have sM := h.bits
  have HO := Lib.hid (fun w v (h : NumB w v M) => ROf_big h sM h1 h2 e)
  clear sM
  clear e
  go_enter Tryz.func5, Tryz.ntmps5
  go_wp2_with
  (first
    | (go_at_call 18; (with_reducible refine (HO.out _ _ (h.below below_2)).mono ?_); rintro e w1 ⟨vx1, rfl, x1, hb1⟩; have B1 := below_2.trans (hb1.mono below_2.size); have m1 := ((h.below below_2)).below hb1; have P1 := ((blk_a1)).below hb1; have R1 := ((blk_a2)).below hb1; obtain ⟨cP0_1, cP1_1, cP2_1, fP0_1, fP1_1, fP2_1, sP_1⟩ := P1.open3; obtain ⟨cR0_1, cR1_1, cR2_1, fR0_1, fR1_1, fR2_1, sR_1⟩ := R1.open3; obtain ⟨ax1, kx1, rfl, -⟩ := x1.view; try simp only [List.length_nil] at x1)
    | fail)
  obtain ⟨z0, z1, z2, -⟩ := (R1.set3 (.bool n') (.slice ax1 (digs DD M').length kx1) (.int .i64 E')).open3
  refine bodyPost_ret (v := .agg #[.bool n', .slice ax1 (digs DD M').length kx1, .int .i64 E']) ?_ rfl ?_
  · simp [results, Tryz.results5, go_sem, z0, z1, z2]
  · exact ⟨_, rfl, RdD.set3 x1 R1 dcells32 _ _ _, below_set3b B1 (by omega) _ _ _⟩
theorem minus14_n {w : World} {u : Value} {neg : Bool} {M : Nat} {E : Int} (h : RdD w u (digs DD M)) :
    Calls Tryz.prog 22 #[.agg #[.bool neg, u, .int .i64 E]] w (fun e w' => ∃ v, e = .returned (.agg #[.bool (!neg), v, .int .i64 E]) ∧ RdD w' v (digs DD M) ∧ Below w.heap.size w w') := by
  obtain ⟨a, k, rfl, -⟩ := h.view
  go_enter Tryz.func22, Tryz.ntmps22
  go_wp2_with fail
  have R := fun T o => (blk_a2 (w := w) (T := T) (o := o) (c := #[.bool (!neg), .slice a (digs DD M).length k, .int .i64 E])).open3
  have z0 := fun T o => (R T o).1
  have z1 := fun T o => (R T o).2.1
  have z2 := fun T o => (R T o).2.2.1
  refine bodyPost_ret (v := .agg #[.bool (!neg), .slice a (digs DD M).length k, .int .i64 E]) (by simp [results, Tryz.results22, go_sem, z0, z1, z2]) rfl ⟨_, rfl, h.below below_2, below_2⟩
theorem far14_n {w : World} {n : Bool} {a : Option Addr} {ll k : Nat} {E s : Int} :
    Calls Tryz.prog 6 #[.agg #[.bool n, .slice a ll k, .int .i64 E], .agg #[.bool n, .slice a ll k, .int .i64 E], .int .i64 s] w (fun e w' => e = .returned (.bool (decide (20 < ll) || (decide (400 < s) && decide (s ≤ 8900)))) ∧ Below w.heap.size w w') := by
  by_cases h : 20 < ll
  · have d1 : decide (20 < (ll : Int)) = true := decide_eq_true (by omega)
    have d2 : decide (20 < ll) = true := decide_eq_true h
    rw [d2, Bool.true_or]
    clear h
    go_enter Tryz.func6, Tryz.ntmps6
    go_wp2_with fail
    all_goals
      go_ret
      exact ⟨rfl, below_2⟩
  · have d1 : decide (20 < (ll : Int)) = false := decide_eq_false (by omega)
    have d2 : decide (20 < ll) = false := decide_eq_false h
    rw [d2, Bool.false_or]
    clear h
    by_cases h4 : 400 < s
    · have d4 : decide (400 < s) = true := decide_eq_true h4
      rw [d4, Bool.true_and]
      clear h4
      obtain ⟨r, hr⟩ : ∃ r, decide (s ≤ 8900) = r := ⟨_, rfl⟩
      rw [hr]
      go_enter Tryz.func6, Tryz.ntmps6
      go_wp2_with fail
      all_goals
        go_ret
        exact ⟨rfl, below_2⟩
    · have d4 : decide (400 < s) = false := decide_eq_false h4
      rw [d4, Bool.false_and]
      clear h4
      go_enter Tryz.func6, Tryz.ntmps6
      go_wp2_with fail
      all_goals
        go_ret
        exact ⟨rfl, below_2⟩
theorem RSign_z {w : World} {u : Value} {n : Bool} {M : Nat} {E : Int} (h : RdD w u (digs DD M)) (hq : qv ⟨n, M, E⟩ = 0) :
    Calls Tryz.prog 20 #[.agg #[.bool n, u, .int .i64 E]] w (fun e w' => e = .returned (.int .i64 0) ∧ Below w.heap.size w w') := by
  refine RSign_n h ?_
  rcases signD_val ⟨n, M, E⟩ with ⟨h, -⟩ | ⟨-, h⟩ | ⟨h, -⟩
  · exact absurd h (by grind)
  · exact h
  · exact absurd h (by grind)
theorem rightB_mid {n : Bool} {M : Nat} {E : Int} (h : rightB M E = true) (h0 : M = 0 → E = 0) : Mid 20000 ⟨n, M, E⟩ := by
  obtain ⟨h1, h2, h3, h4⟩ := rightB_parts h
  rcases h4 with h4 | h4
  · have := h0 h4
    subst this
    subst h4
    cases n <;> exact ⟨by decide, by decide, by decide⟩
  · by_cases hz : M = 0
    · have := h0 hz
      subst this
      subst hz
      cases n <;> exact ⟨by decide, by decide, by decide⟩
    · have := bitN_pos hz
      exact ⟨by dsimp only; omega, by dsimp only; omega, by dsimp only; omega⟩
def right14 (M : Nat) (E s : Int) : Bool := decide (8 ≤ s) && (decide (s ≤ 8900) && rightB M E)
set_option maxHeartbeats 8000000 in
theorem right14_n {w : World} {v : Value} {n : Bool} {M : Nat} {E s : Int} (h : RdD w v (digs DD M)) (sM : bitN M ≤ 200000) (hz : M = 0 → E = 0) :
    Calls Tryz.prog 7 #[.agg #[.bool n, v, .int .i64 E], .agg #[.bool n, v, .int .i64 E], .int .i64 s] w (fun e w' => e = .returned (.bool (right14 M E s)) ∧ Below w.heap.size w w') := by
  obtain ⟨a, k, rfl, -⟩ := h.view
  have HR := Lib.hid (fun w v (h : RdD w v (digs DD M)) => RRight14_n (neg := n) (E := E) h sM)
  obtain ⟨ll, hll⟩ : ∃ l, (digs DD M).length = l := ⟨_, rfl⟩
  rw [hll] at h ⊢
  replace hll := Lib.hid hll
  unfold right14
  by_cases t1 : 8 ≤ s
  rotate_left
  · have d1 : decide (8 ≤ s) = false := decide_eq_false t1
    rw [d1, Bool.false_and]
    clear hz HR t1
    go_enter Tryz.func7, Tryz.ntmps7
    go_upto_region 1 with fail
    have P0 := blk_a1 (w := w) (T := 28) (c := #[.bool n, .slice a ll k, .int .i64 E]) (o := .cells #[.bool n, .slice a ll k, .int .i64 E] 28 (0, 0))
    have Q0 := blk_a2 (w := w) (T := 28) (o := .cells #[.bool n, .slice a ll k, .int .i64 E] 28 (0, 0)) (c := #[.bool n, .slice a ll k, .int .i64 E])
    have B0 : Below w.heap.size w ((w.alloc (.cells #[.bool n, .slice a ll k, .int .i64 E] 28 (0, 0))).alloc (.cells #[.bool n, .slice a ll k, .int .i64 E] 28 (0, 0))) := below_2
    have x0 := h.below B0
    generalize (w.alloc (.cells #[.bool n, .slice a ll k, .int .i64 E] 28 (0, 0))).alloc (.cells #[.bool n, .slice a ll k, .int .i64 E] 28 (0, 0)) = w0 at *
    have Dw : Below w0.heap.size w0 w0.drew := below_drewN (Below.refl _ _) 1
    have Pd := P0.below Dw; have Qd := Q0.below Dw; have xd := x0.below Dw; have Bd := B0.trans (Dw.mono B0.size)
    have zd := Lib.hid (And.intro (cells33 Pd) (cells33 Qd))
    clear P0 Q0 B0 x0 Dw h
    refine wp_region_held_drew (S := (fun w' => (w'.cell? ⟨w.heap.size, 0, none⟩ = some (.bool n) ∧ w'.cell? ⟨w.heap.size, 1, none⟩ = some (.slice a ll k) ∧ w'.cell? ⟨w.heap.size, 2, none⟩ = some (.int .i64 E)) ∧ (w'.cell? ⟨w.heap.size + 1, 0, none⟩ = some (.bool n) ∧ w'.cell? ⟨w.heap.size + 1, 1, none⟩ = some (.slice a ll k) ∧ w'.cell? ⟨w.heap.size + 1, 2, none⟩ = some (.int .i64 E)))) (by kernel_rfl) ?_ (fun hHeld => ?_)
    · (try dsimp only); exact zd.out
    refine wpAnyH_take (i := 0) (v := ?_) (getOf rfl) (by kernel_rfl) (by kernel_rfl) (by kernel_rfl) (fun _ _ _ h => h) (Or.inl ⟨by rfl, ?_⟩) hHeld ?_
    rotate_left
    · (intro w hSw; (try dsimp only at hSw); go_simp; (try with_reducible rfl))
    (try simp only [Act.put, List.setIfInBounds_toArray, List.set_cons_zero, List.set_cons_succ])
    refine wpAnyH_take (i := 1) (v := ?_) (getOf rfl) (by kernel_rfl) (by kernel_rfl) (by kernel_rfl) (fun _ _ _ h => h) (Or.inl ⟨by rfl, ?_⟩) hHeld ?_
    rotate_left
    · (intro w hSw; (try dsimp only at hSw); go_simp; (try with_reducible rfl))
    (try simp only [Act.put, List.setIfInBounds_toArray, List.set_cons_zero, List.set_cons_succ])
    refine wpAnyH_take (i := 2) (v := ?_) (getOf rfl) (by kernel_rfl) (by kernel_rfl) (by kernel_rfl) (fun _ _ _ h => h) (Or.inl ⟨by rfl, ?_⟩) hHeld ?_
    rotate_left
    · (intro w hSw; (try dsimp only at hSw); go_simp; (try with_reducible rfl))
    (try simp only [Act.put, List.setIfInBounds_toArray, List.set_cons_zero, List.set_cons_succ])
    refine wpAnyH_take (i := 3) (v := undef) (getOf rfl) (by kernel_rfl) (by kernel_rfl) (by kernel_rfl) (fun _ _ _ h => h) (Or.inr ⟨by rfl, rfl⟩) hHeld ?_
    (try simp only [Act.put, List.setIfInBounds_toArray, List.set_cons_zero, List.set_cons_succ])
    refine wpAnyH_take (i := 4) (v := undef) (getOf rfl) (by kernel_rfl) (by kernel_rfl) (by kernel_rfl) (fun _ _ _ h => h) (Or.inr ⟨by rfl, rfl⟩) hHeld ?_
    (try simp only [Act.put, List.setIfInBounds_toArray, List.set_cons_zero, List.set_cons_succ])
    refine wpAnyH_take (i := 5) (v := ?_) (getOf rfl) (by kernel_rfl) (by kernel_rfl) (by kernel_rfl) (fun _ _ _ h => h) (Or.inl ⟨by rfl, ?_⟩) hHeld ?_
    rotate_left
    · (intro w hSw; (try dsimp only at hSw); go_simp; (try with_reducible rfl))
    (try simp only [Act.put, List.setIfInBounds_toArray, List.set_cons_zero, List.set_cons_succ])
    refine wpAnyH_take (i := 6) (v := ?_) (getOf rfl) (by kernel_rfl) (by kernel_rfl) (by kernel_rfl) (fun _ _ _ h => h) (Or.inl ⟨by rfl, ?_⟩) hHeld ?_
    rotate_left
    · (intro w hSw; (try dsimp only at hSw); go_simp; (try with_reducible rfl))
    (try simp only [Act.put, List.setIfInBounds_toArray, List.set_cons_zero, List.set_cons_succ])
    refine wpAnyH_take (i := 7) (v := undef) (getOf rfl) (by kernel_rfl) (by kernel_rfl) (by kernel_rfl) (fun _ _ _ h => h) (Or.inr ⟨by rfl, rfl⟩) hHeld ?_
    (try simp only [Act.put, List.setIfInBounds_toArray, List.set_cons_zero, List.set_cons_succ])
    refine wpAnyH_take (i := 8) (v := undef) (getOf rfl) (by kernel_rfl) (by kernel_rfl) (by kernel_rfl) (fun _ _ _ h => h) (Or.inr ⟨by rfl, rfl⟩) hHeld ?_
    (try simp only [Act.put, List.setIfInBounds_toArray, List.set_cons_zero, List.set_cons_succ])
    refine wpAnyH_take (i := 9) (v := ?_) (getOf rfl) (by kernel_rfl) (by kernel_rfl) (by kernel_rfl) (fun _ _ _ h => h) (Or.inl ⟨by rfl, ?_⟩) hHeld ?_
    rotate_left
    · (intro w hSw; (try dsimp only at hSw); go_simp; (try with_reducible rfl))
    (try simp only [Act.put, List.setIfInBounds_toArray, List.set_cons_zero, List.set_cons_succ])
    refine wpAnyH_take (i := 10) (v := ?_) (getOf rfl) (by kernel_rfl) (by kernel_rfl) (by kernel_rfl) (fun _ _ _ h => h) (Or.inl ⟨by rfl, ?_⟩) hHeld ?_
    rotate_left
    · (intro w hSw; (try dsimp only at hSw); go_simp; (try with_reducible rfl))
    (try simp only [Act.put, List.setIfInBounds_toArray, List.set_cons_zero, List.set_cons_succ])
    refine wpAnyH_take (i := 11) (v := undef) (getOf rfl) (by kernel_rfl) (by kernel_rfl) (by kernel_rfl) (fun _ _ _ h => h) (Or.inr ⟨by rfl, rfl⟩) hHeld ?_
    (try simp only [Act.put, List.setIfInBounds_toArray, List.set_cons_zero, List.set_cons_succ])
    refine wpAnyH_take (i := 12) (v := undef) (getOf rfl) (by kernel_rfl) (by kernel_rfl) (by kernel_rfl) (fun _ _ _ h => h) (Or.inr ⟨by rfl, rfl⟩) hHeld ?_
    (try simp only [Act.put, List.setIfInBounds_toArray, List.set_cons_zero, List.set_cons_succ])
    refine wpAnyH_take (i := 13) (v := ?_) (getOf rfl) (by kernel_rfl) (by kernel_rfl) (by kernel_rfl) (fun _ _ _ h => h) (Or.inl ⟨by rfl, ?_⟩) hHeld ?_
    rotate_left
    · (intro w hSw; (try dsimp only at hSw); go_simp; (try with_reducible rfl))
    (try simp only [Act.put, List.setIfInBounds_toArray, List.set_cons_zero, List.set_cons_succ])
    refine wpAnyH_take (i := 14) (v := ?_) (getOf rfl) (by kernel_rfl) (by kernel_rfl) (by kernel_rfl) (fun _ _ _ h => h) (Or.inl ⟨by rfl, ?_⟩) hHeld ?_
    rotate_left
    · (intro w hSw; (try dsimp only at hSw); go_simp; (try with_reducible rfl))
    (try simp only [Act.put, List.setIfInBounds_toArray, List.set_cons_zero, List.set_cons_succ])
    refine wpAnyH_take (i := 15) (v := undef) (getOf rfl) (by kernel_rfl) (by kernel_rfl) (by kernel_rfl) (fun _ _ _ h => h) (Or.inr ⟨by rfl, rfl⟩) hHeld ?_
    (try simp only [Act.put, List.setIfInBounds_toArray, List.set_cons_zero, List.set_cons_succ])
    refine wpAnyH_take (i := 16) (v := undef) (getOf rfl) (by kernel_rfl) (by kernel_rfl) (by kernel_rfl) (fun _ _ _ h => h) (Or.inr ⟨by rfl, rfl⟩) hHeld ?_
    (try simp only [Act.put, List.setIfInBounds_toArray, List.set_cons_zero, List.set_cons_succ])
    refine wpAnyH_take (i := 17) (v := undef) (getOf rfl) (by kernel_rfl) (by kernel_rfl) (by kernel_rfl) (fun _ _ _ h => h) (Or.inr ⟨by rfl, rfl⟩) hHeld ?_
    (try simp only [Act.put, List.setIfInBounds_toArray, List.set_cons_zero, List.set_cons_succ])
    refine wpAnyH_take (i := 18) (v := undef) (getOf rfl) (by kernel_rfl) (by kernel_rfl) (by kernel_rfl) (fun _ _ _ h => h) (Or.inr ⟨by rfl, rfl⟩) hHeld ?_
    (try simp only [Act.put, List.setIfInBounds_toArray, List.set_cons_zero, List.set_cons_succ])
    refine wpAnyH_take (i := 19) (v := undef) (getOf rfl) (by kernel_rfl) (by kernel_rfl) (by kernel_rfl) (fun _ _ _ h => h) (Or.inr ⟨by rfl, rfl⟩) hHeld ?_
    (try simp only [Act.put, List.setIfInBounds_toArray, List.set_cons_zero, List.set_cons_succ])
    refine wpAnyH_take (i := 20) (v := undef) (getOf rfl) (by kernel_rfl) (by kernel_rfl) (by kernel_rfl) (fun _ _ _ h => h) (Or.inr ⟨by rfl, rfl⟩) hHeld ?_
    (try simp only [Act.put, List.setIfInBounds_toArray, List.set_cons_zero, List.set_cons_succ])
    refine wpAnyH_take (i := 21) (v := ?_) (getOf rfl) (by kernel_rfl) (by kernel_rfl) (by kernel_rfl) (fun _ _ _ h => h) (Or.inl ⟨by rfl, ?_⟩) hHeld ?_
    rotate_left
    · (intro w hSw; (try dsimp only at hSw); go_simp; (try with_reducible rfl))
    (try simp only [Act.put, List.setIfInBounds_toArray, List.set_cons_zero, List.set_cons_succ])
    refine wpAnyH_take (i := 22) (v := ?_) (getOf rfl) (by kernel_rfl) (by kernel_rfl) (by kernel_rfl) (fun _ _ _ h => h) (Or.inl ⟨by rfl, ?_⟩) hHeld ?_
    rotate_left
    · (intro w hSw; (try dsimp only at hSw); go_simp; (try with_reducible rfl))
    (try simp only [Act.put, List.setIfInBounds_toArray, List.set_cons_zero, List.set_cons_succ])
    refine wpAnyH_done (by kernel_rfl) ?_ _
    go_wp2_with fail
    go_ret
    exact ⟨rfl, by assumption⟩

  have d1 : decide (8 ≤ s) = true := decide_eq_true t1
  by_cases t2 : s ≤ 8900
  rotate_left
  · have d2 : decide (s ≤ 8900) = false := decide_eq_false t2
    rw [d1, d2, Bool.false_and, Bool.and_false]
    clear hz HR t1 t2
    go_enter Tryz.func7, Tryz.ntmps7
    go_upto_region 1 with fail
    have P0 := blk_a1 (w := w) (T := 28) (c := #[.bool n, .slice a ll k, .int .i64 E]) (o := .cells #[.bool n, .slice a ll k, .int .i64 E] 28 (0, 0))
    have Q0 := blk_a2 (w := w) (T := 28) (o := .cells #[.bool n, .slice a ll k, .int .i64 E] 28 (0, 0)) (c := #[.bool n, .slice a ll k, .int .i64 E])
    have B0 : Below w.heap.size w ((w.alloc (.cells #[.bool n, .slice a ll k, .int .i64 E] 28 (0, 0))).alloc (.cells #[.bool n, .slice a ll k, .int .i64 E] 28 (0, 0))) := below_2
    have x0 := h.below B0
    generalize (w.alloc (.cells #[.bool n, .slice a ll k, .int .i64 E] 28 (0, 0))).alloc (.cells #[.bool n, .slice a ll k, .int .i64 E] 28 (0, 0)) = w0 at *
    have Dw : Below w0.heap.size w0 w0.drew := below_drewN (Below.refl _ _) 1
    have Pd := P0.below Dw; have Qd := Q0.below Dw; have xd := x0.below Dw; have Bd := B0.trans (Dw.mono B0.size)
    have zd := Lib.hid (And.intro (cells33 Pd) (cells33 Qd))
    clear P0 Q0 B0 x0 Dw h
    refine wp_region_held_drew (S := (fun w' => (w'.cell? ⟨w.heap.size, 0, none⟩ = some (.bool n) ∧ w'.cell? ⟨w.heap.size, 1, none⟩ = some (.slice a ll k) ∧ w'.cell? ⟨w.heap.size, 2, none⟩ = some (.int .i64 E)) ∧ (w'.cell? ⟨w.heap.size + 1, 0, none⟩ = some (.bool n) ∧ w'.cell? ⟨w.heap.size + 1, 1, none⟩ = some (.slice a ll k) ∧ w'.cell? ⟨w.heap.size + 1, 2, none⟩ = some (.int .i64 E)))) (by kernel_rfl) ?_ (fun hHeld => ?_)
    · (try dsimp only); exact zd.out
    refine wpAnyH_take (i := 0) (v := ?_) (getOf rfl) (by kernel_rfl) (by kernel_rfl) (by kernel_rfl) (fun _ _ _ h => h) (Or.inl ⟨by rfl, ?_⟩) hHeld ?_
    rotate_left
    · (intro w hSw; (try dsimp only at hSw); go_simp; (try with_reducible rfl))
    (try simp only [Act.put, List.setIfInBounds_toArray, List.set_cons_zero, List.set_cons_succ])
    refine wpAnyH_take (i := 1) (v := ?_) (getOf rfl) (by kernel_rfl) (by kernel_rfl) (by kernel_rfl) (fun _ _ _ h => h) (Or.inl ⟨by rfl, ?_⟩) hHeld ?_
    rotate_left
    · (intro w hSw; (try dsimp only at hSw); go_simp; (try with_reducible rfl))
    (try simp only [Act.put, List.setIfInBounds_toArray, List.set_cons_zero, List.set_cons_succ])
    refine wpAnyH_take (i := 2) (v := ?_) (getOf rfl) (by kernel_rfl) (by kernel_rfl) (by kernel_rfl) (fun _ _ _ h => h) (Or.inl ⟨by rfl, ?_⟩) hHeld ?_
    rotate_left
    · (intro w hSw; (try dsimp only at hSw); go_simp; (try with_reducible rfl))
    (try simp only [Act.put, List.setIfInBounds_toArray, List.set_cons_zero, List.set_cons_succ])
    refine wpAnyH_take (i := 3) (v := ?_) (getOf rfl) (by kernel_rfl) (by kernel_rfl) (by kernel_rfl) (fun _ _ _ h => h) (Or.inl ⟨by rfl, ?_⟩) hHeld ?_
    rotate_left
    · (intro w hSw; (try dsimp only at hSw); go_simp; (try with_reducible rfl))
    (try simp only [Act.put, List.setIfInBounds_toArray, List.set_cons_zero, List.set_cons_succ])
    refine wpAnyH_take (i := 4) (v := ?_) (getOf rfl) (by kernel_rfl) (by kernel_rfl) (by kernel_rfl) (fun _ _ _ h => h) (Or.inl ⟨by rfl, ?_⟩) hHeld ?_
    rotate_left
    · (intro w hSw; (try dsimp only at hSw); go_simp; (try with_reducible rfl))
    (try simp only [Act.put, List.setIfInBounds_toArray, List.set_cons_zero, List.set_cons_succ])
    refine wpAnyH_take (i := 5) (v := ?_) (getOf rfl) (by kernel_rfl) (by kernel_rfl) (by kernel_rfl) (fun _ _ _ h => h) (Or.inl ⟨by rfl, ?_⟩) hHeld ?_
    rotate_left
    · (intro w hSw; (try dsimp only at hSw); go_simp; (try with_reducible rfl))
    (try simp only [Act.put, List.setIfInBounds_toArray, List.set_cons_zero, List.set_cons_succ])
    refine wpAnyH_take (i := 6) (v := ?_) (getOf rfl) (by kernel_rfl) (by kernel_rfl) (by kernel_rfl) (fun _ _ _ h => h) (Or.inl ⟨by rfl, ?_⟩) hHeld ?_
    rotate_left
    · (intro w hSw; (try dsimp only at hSw); go_simp; (try with_reducible rfl))
    (try simp only [Act.put, List.setIfInBounds_toArray, List.set_cons_zero, List.set_cons_succ])
    refine wpAnyH_take (i := 7) (v := undef) (getOf rfl) (by kernel_rfl) (by kernel_rfl) (by kernel_rfl) (fun _ _ _ h => h) (Or.inr ⟨by rfl, rfl⟩) hHeld ?_
    (try simp only [Act.put, List.setIfInBounds_toArray, List.set_cons_zero, List.set_cons_succ])
    refine wpAnyH_take (i := 8) (v := undef) (getOf rfl) (by kernel_rfl) (by kernel_rfl) (by kernel_rfl) (fun _ _ _ h => h) (Or.inr ⟨by rfl, rfl⟩) hHeld ?_
    (try simp only [Act.put, List.setIfInBounds_toArray, List.set_cons_zero, List.set_cons_succ])
    refine wpAnyH_take (i := 9) (v := ?_) (getOf rfl) (by kernel_rfl) (by kernel_rfl) (by kernel_rfl) (fun _ _ _ h => h) (Or.inl ⟨by rfl, ?_⟩) hHeld ?_
    rotate_left
    · (intro w hSw; (try dsimp only at hSw); go_simp; (try with_reducible rfl))
    (try simp only [Act.put, List.setIfInBounds_toArray, List.set_cons_zero, List.set_cons_succ])
    refine wpAnyH_take (i := 10) (v := ?_) (getOf rfl) (by kernel_rfl) (by kernel_rfl) (by kernel_rfl) (fun _ _ _ h => h) (Or.inl ⟨by rfl, ?_⟩) hHeld ?_
    rotate_left
    · (intro w hSw; (try dsimp only at hSw); go_simp; (try with_reducible rfl))
    (try simp only [Act.put, List.setIfInBounds_toArray, List.set_cons_zero, List.set_cons_succ])
    refine wpAnyH_take (i := 11) (v := undef) (getOf rfl) (by kernel_rfl) (by kernel_rfl) (by kernel_rfl) (fun _ _ _ h => h) (Or.inr ⟨by rfl, rfl⟩) hHeld ?_
    (try simp only [Act.put, List.setIfInBounds_toArray, List.set_cons_zero, List.set_cons_succ])
    refine wpAnyH_take (i := 12) (v := undef) (getOf rfl) (by kernel_rfl) (by kernel_rfl) (by kernel_rfl) (fun _ _ _ h => h) (Or.inr ⟨by rfl, rfl⟩) hHeld ?_
    (try simp only [Act.put, List.setIfInBounds_toArray, List.set_cons_zero, List.set_cons_succ])
    refine wpAnyH_take (i := 13) (v := ?_) (getOf rfl) (by kernel_rfl) (by kernel_rfl) (by kernel_rfl) (fun _ _ _ h => h) (Or.inl ⟨by rfl, ?_⟩) hHeld ?_
    rotate_left
    · (intro w hSw; (try dsimp only at hSw); go_simp; (try with_reducible rfl))
    (try simp only [Act.put, List.setIfInBounds_toArray, List.set_cons_zero, List.set_cons_succ])
    refine wpAnyH_take (i := 14) (v := ?_) (getOf rfl) (by kernel_rfl) (by kernel_rfl) (by kernel_rfl) (fun _ _ _ h => h) (Or.inl ⟨by rfl, ?_⟩) hHeld ?_
    rotate_left
    · (intro w hSw; (try dsimp only at hSw); go_simp; (try with_reducible rfl))
    (try simp only [Act.put, List.setIfInBounds_toArray, List.set_cons_zero, List.set_cons_succ])
    refine wpAnyH_take (i := 15) (v := undef) (getOf rfl) (by kernel_rfl) (by kernel_rfl) (by kernel_rfl) (fun _ _ _ h => h) (Or.inr ⟨by rfl, rfl⟩) hHeld ?_
    (try simp only [Act.put, List.setIfInBounds_toArray, List.set_cons_zero, List.set_cons_succ])
    refine wpAnyH_take (i := 16) (v := undef) (getOf rfl) (by kernel_rfl) (by kernel_rfl) (by kernel_rfl) (fun _ _ _ h => h) (Or.inr ⟨by rfl, rfl⟩) hHeld ?_
    (try simp only [Act.put, List.setIfInBounds_toArray, List.set_cons_zero, List.set_cons_succ])
    refine wpAnyH_take (i := 17) (v := undef) (getOf rfl) (by kernel_rfl) (by kernel_rfl) (by kernel_rfl) (fun _ _ _ h => h) (Or.inr ⟨by rfl, rfl⟩) hHeld ?_
    (try simp only [Act.put, List.setIfInBounds_toArray, List.set_cons_zero, List.set_cons_succ])
    refine wpAnyH_take (i := 18) (v := undef) (getOf rfl) (by kernel_rfl) (by kernel_rfl) (by kernel_rfl) (fun _ _ _ h => h) (Or.inr ⟨by rfl, rfl⟩) hHeld ?_
    (try simp only [Act.put, List.setIfInBounds_toArray, List.set_cons_zero, List.set_cons_succ])
    refine wpAnyH_take (i := 19) (v := undef) (getOf rfl) (by kernel_rfl) (by kernel_rfl) (by kernel_rfl) (fun _ _ _ h => h) (Or.inr ⟨by rfl, rfl⟩) hHeld ?_
    (try simp only [Act.put, List.setIfInBounds_toArray, List.set_cons_zero, List.set_cons_succ])
    refine wpAnyH_take (i := 20) (v := undef) (getOf rfl) (by kernel_rfl) (by kernel_rfl) (by kernel_rfl) (fun _ _ _ h => h) (Or.inr ⟨by rfl, rfl⟩) hHeld ?_
    (try simp only [Act.put, List.setIfInBounds_toArray, List.set_cons_zero, List.set_cons_succ])
    refine wpAnyH_take (i := 21) (v := ?_) (getOf rfl) (by kernel_rfl) (by kernel_rfl) (by kernel_rfl) (fun _ _ _ h => h) (Or.inl ⟨by rfl, ?_⟩) hHeld ?_
    rotate_left
    · (intro w hSw; (try dsimp only at hSw); go_simp; (try with_reducible rfl))
    (try simp only [Act.put, List.setIfInBounds_toArray, List.set_cons_zero, List.set_cons_succ])
    refine wpAnyH_take (i := 22) (v := ?_) (getOf rfl) (by kernel_rfl) (by kernel_rfl) (by kernel_rfl) (fun _ _ _ h => h) (Or.inl ⟨by rfl, ?_⟩) hHeld ?_
    rotate_left
    · (intro w hSw; (try dsimp only at hSw); go_simp; (try with_reducible rfl))
    (try simp only [Act.put, List.setIfInBounds_toArray, List.set_cons_zero, List.set_cons_succ])
    refine wpAnyH_done (by kernel_rfl) ?_ _
    go_wp2_with fail
    go_ret
    exact ⟨rfl, by assumption⟩

  have d2 : decide (s ≤ 8900) = true := decide_eq_true t2
  obtain ⟨r, hr⟩ : ∃ r, rightB M E = r := ⟨_, rfl⟩
  rw [hr] at HR ⊢
  rw [d1, d2, Bool.true_and, Bool.true_and]
  cases r
  · clear hz hr t1 t2
    go_enter Tryz.func7, Tryz.ntmps7
    go_upto_region 1 with fail
    have P0 := blk_a1 (w := w) (T := 28) (c := #[.bool n, .slice a ll k, .int .i64 E]) (o := .cells #[.bool n, .slice a ll k, .int .i64 E] 28 (0, 0))
    have Q0 := blk_a2 (w := w) (T := 28) (o := .cells #[.bool n, .slice a ll k, .int .i64 E] 28 (0, 0)) (c := #[.bool n, .slice a ll k, .int .i64 E])
    have B0 : Below w.heap.size w ((w.alloc (.cells #[.bool n, .slice a ll k, .int .i64 E] 28 (0, 0))).alloc (.cells #[.bool n, .slice a ll k, .int .i64 E] 28 (0, 0))) := below_2
    have x0 := h.below B0
    generalize (w.alloc (.cells #[.bool n, .slice a ll k, .int .i64 E] 28 (0, 0))).alloc (.cells #[.bool n, .slice a ll k, .int .i64 E] 28 (0, 0)) = w0 at *
    have Dw : Below w0.heap.size w0 w0.drew := below_drewN (Below.refl _ _) 1
    have Pd := P0.below Dw; have Qd := Q0.below Dw; have xd := x0.below Dw; have Bd := B0.trans (Dw.mono B0.size)
    have zd := Lib.hid (And.intro (cells33 Pd) (cells33 Qd))
    clear P0 Q0 B0 x0 Dw h
    refine wp_region_held_drew (S := (fun w' => (w'.cell? ⟨w.heap.size, 0, none⟩ = some (.bool n) ∧ w'.cell? ⟨w.heap.size, 1, none⟩ = some (.slice a ll k) ∧ w'.cell? ⟨w.heap.size, 2, none⟩ = some (.int .i64 E)) ∧ (w'.cell? ⟨w.heap.size + 1, 0, none⟩ = some (.bool n) ∧ w'.cell? ⟨w.heap.size + 1, 1, none⟩ = some (.slice a ll k) ∧ w'.cell? ⟨w.heap.size + 1, 2, none⟩ = some (.int .i64 E)))) (by kernel_rfl) ?_ (fun hHeld => ?_)
    · (try dsimp only); exact zd.out
    refine wpAnyH_take (i := 0) (v := ?_) (getOf rfl) (by kernel_rfl) (by kernel_rfl) (by kernel_rfl) (fun _ _ _ h => h) (Or.inl ⟨by rfl, ?_⟩) hHeld ?_
    rotate_left
    · (intro w hSw; (try dsimp only at hSw); go_simp; (try with_reducible rfl))
    (try simp only [Act.put, List.setIfInBounds_toArray, List.set_cons_zero, List.set_cons_succ])
    refine wpAnyH_take (i := 1) (v := ?_) (getOf rfl) (by kernel_rfl) (by kernel_rfl) (by kernel_rfl) (fun _ _ _ h => h) (Or.inl ⟨by rfl, ?_⟩) hHeld ?_
    rotate_left
    · (intro w hSw; (try dsimp only at hSw); go_simp; (try with_reducible rfl))
    (try simp only [Act.put, List.setIfInBounds_toArray, List.set_cons_zero, List.set_cons_succ])
    refine wpAnyH_take (i := 2) (v := ?_) (getOf rfl) (by kernel_rfl) (by kernel_rfl) (by kernel_rfl) (fun _ _ _ h => h) (Or.inl ⟨by rfl, ?_⟩) hHeld ?_
    rotate_left
    · (intro w hSw; (try dsimp only at hSw); go_simp; (try with_reducible rfl))
    (try simp only [Act.put, List.setIfInBounds_toArray, List.set_cons_zero, List.set_cons_succ])
    refine wpAnyH_take (i := 3) (v := ?_) (getOf rfl) (by kernel_rfl) (by kernel_rfl) (by kernel_rfl) (fun _ _ _ h => h) (Or.inl ⟨by rfl, ?_⟩) hHeld ?_
    rotate_left
    · (intro w hSw; (try dsimp only at hSw); go_simp; (try with_reducible rfl))
    (try simp only [Act.put, List.setIfInBounds_toArray, List.set_cons_zero, List.set_cons_succ])
    refine wpAnyH_take (i := 4) (v := ?_) (getOf rfl) (by kernel_rfl) (by kernel_rfl) (by kernel_rfl) (fun _ _ _ h => h) (Or.inl ⟨by rfl, ?_⟩) hHeld ?_
    rotate_left
    · (intro w hSw; (try dsimp only at hSw); go_simp; (try with_reducible rfl))
    (try simp only [Act.put, List.setIfInBounds_toArray, List.set_cons_zero, List.set_cons_succ])
    refine wpAnyH_take (i := 5) (v := ?_) (getOf rfl) (by kernel_rfl) (by kernel_rfl) (by kernel_rfl) (fun _ _ _ h => h) (Or.inl ⟨by rfl, ?_⟩) hHeld ?_
    rotate_left
    · (intro w hSw; (try dsimp only at hSw); go_simp; (try with_reducible rfl))
    (try simp only [Act.put, List.setIfInBounds_toArray, List.set_cons_zero, List.set_cons_succ])
    refine wpAnyH_take (i := 6) (v := ?_) (getOf rfl) (by kernel_rfl) (by kernel_rfl) (by kernel_rfl) (fun _ _ _ h => h) (Or.inl ⟨by rfl, ?_⟩) hHeld ?_
    rotate_left
    · (intro w hSw; (try dsimp only at hSw); go_simp; (try with_reducible rfl))
    (try simp only [Act.put, List.setIfInBounds_toArray, List.set_cons_zero, List.set_cons_succ])
    refine wpAnyH_take (i := 7) (v := ?_) (getOf rfl) (by kernel_rfl) (by kernel_rfl) (by kernel_rfl) (fun _ _ _ h => h) (Or.inl ⟨by rfl, ?_⟩) hHeld ?_
    rotate_left
    · (intro w hSw; (try dsimp only at hSw); go_simp; (try with_reducible rfl))
    (try simp only [Act.put, List.setIfInBounds_toArray, List.set_cons_zero, List.set_cons_succ])
    refine wpAnyH_ready (rs := [8]) (by kernel_rfl) (by simp) ?_
    refine AllReadyH.cons (getOf rfl) (fun K hK => ?_) AllReadyH.nil
    go_simp
    (go_at_call 19; (with_reducible refine (HR.out _ _ xd).mono ?_); rintro e y1 ⟨rfl, hz1⟩; have x1 := xd.below hz1; have P1 := Pd.below hz1; have Q1 := Qd.below hz1; have B1 := Bd.trans (hz1.mono Bd.size); have z1 := Lib.hid (And.intro (cells33 P1) (cells33 Q1)))
    (try (go_wp2_with fail))
    refine hK.out _ _ ?_ (fun hHeld2 => ?_)
    · (try dsimp only); exact z1.out
    clear hK K hHeld
    have hHeld := hHeld2
    clear hHeld2
    (try simp only [Act.put, List.setIfInBounds_toArray, List.set_cons_zero, List.set_cons_succ])
    refine wpAnyH_take (i := 9) (v := ?_) (getOf rfl) (by kernel_rfl) (by kernel_rfl) (by kernel_rfl) (fun _ _ _ h => h) (Or.inl ⟨by rfl, ?_⟩) hHeld ?_
    rotate_left
    · (intro w hSw; (try dsimp only at hSw); go_simp; (try with_reducible rfl))
    (try simp only [Act.put, List.setIfInBounds_toArray, List.set_cons_zero, List.set_cons_succ])
    refine wpAnyH_take (i := 10) (v := ?_) (getOf rfl) (by kernel_rfl) (by kernel_rfl) (by kernel_rfl) (fun _ _ _ h => h) (Or.inl ⟨by rfl, ?_⟩) hHeld ?_
    rotate_left
    · (intro w hSw; (try dsimp only at hSw); go_simp; (try with_reducible rfl))
    (try simp only [Act.put, List.setIfInBounds_toArray, List.set_cons_zero, List.set_cons_succ])
    refine wpAnyH_take (i := 11) (v := undef) (getOf rfl) (by kernel_rfl) (by kernel_rfl) (by kernel_rfl) (fun _ _ _ h => h) (Or.inr ⟨by rfl, rfl⟩) hHeld ?_
    (try simp only [Act.put, List.setIfInBounds_toArray, List.set_cons_zero, List.set_cons_succ])
    refine wpAnyH_take (i := 12) (v := undef) (getOf rfl) (by kernel_rfl) (by kernel_rfl) (by kernel_rfl) (fun _ _ _ h => h) (Or.inr ⟨by rfl, rfl⟩) hHeld ?_
    (try simp only [Act.put, List.setIfInBounds_toArray, List.set_cons_zero, List.set_cons_succ])
    refine wpAnyH_take (i := 13) (v := ?_) (getOf rfl) (by kernel_rfl) (by kernel_rfl) (by kernel_rfl) (fun _ _ _ h => h) (Or.inl ⟨by rfl, ?_⟩) hHeld ?_
    rotate_left
    · (intro w hSw; (try dsimp only at hSw); go_simp; (try with_reducible rfl))
    (try simp only [Act.put, List.setIfInBounds_toArray, List.set_cons_zero, List.set_cons_succ])
    refine wpAnyH_take (i := 14) (v := ?_) (getOf rfl) (by kernel_rfl) (by kernel_rfl) (by kernel_rfl) (fun _ _ _ h => h) (Or.inl ⟨by rfl, ?_⟩) hHeld ?_
    rotate_left
    · (intro w hSw; (try dsimp only at hSw); go_simp; (try with_reducible rfl))
    (try simp only [Act.put, List.setIfInBounds_toArray, List.set_cons_zero, List.set_cons_succ])
    refine wpAnyH_take (i := 15) (v := undef) (getOf rfl) (by kernel_rfl) (by kernel_rfl) (by kernel_rfl) (fun _ _ _ h => h) (Or.inr ⟨by rfl, rfl⟩) hHeld ?_
    (try simp only [Act.put, List.setIfInBounds_toArray, List.set_cons_zero, List.set_cons_succ])
    refine wpAnyH_take (i := 16) (v := undef) (getOf rfl) (by kernel_rfl) (by kernel_rfl) (by kernel_rfl) (fun _ _ _ h => h) (Or.inr ⟨by rfl, rfl⟩) hHeld ?_
    (try simp only [Act.put, List.setIfInBounds_toArray, List.set_cons_zero, List.set_cons_succ])
    refine wpAnyH_take (i := 17) (v := undef) (getOf rfl) (by kernel_rfl) (by kernel_rfl) (by kernel_rfl) (fun _ _ _ h => h) (Or.inr ⟨by rfl, rfl⟩) hHeld ?_
    (try simp only [Act.put, List.setIfInBounds_toArray, List.set_cons_zero, List.set_cons_succ])
    refine wpAnyH_take (i := 18) (v := undef) (getOf rfl) (by kernel_rfl) (by kernel_rfl) (by kernel_rfl) (fun _ _ _ h => h) (Or.inr ⟨by rfl, rfl⟩) hHeld ?_
    (try simp only [Act.put, List.setIfInBounds_toArray, List.set_cons_zero, List.set_cons_succ])
    refine wpAnyH_take (i := 19) (v := undef) (getOf rfl) (by kernel_rfl) (by kernel_rfl) (by kernel_rfl) (fun _ _ _ h => h) (Or.inr ⟨by rfl, rfl⟩) hHeld ?_
    (try simp only [Act.put, List.setIfInBounds_toArray, List.set_cons_zero, List.set_cons_succ])
    refine wpAnyH_take (i := 20) (v := undef) (getOf rfl) (by kernel_rfl) (by kernel_rfl) (by kernel_rfl) (fun _ _ _ h => h) (Or.inr ⟨by rfl, rfl⟩) hHeld ?_
    (try simp only [Act.put, List.setIfInBounds_toArray, List.set_cons_zero, List.set_cons_succ])
    refine wpAnyH_take (i := 21) (v := ?_) (getOf rfl) (by kernel_rfl) (by kernel_rfl) (by kernel_rfl) (fun _ _ _ h => h) (Or.inl ⟨by rfl, ?_⟩) hHeld ?_
    rotate_left
    · (intro w hSw; (try dsimp only at hSw); go_simp; (try with_reducible rfl))
    (try simp only [Act.put, List.setIfInBounds_toArray, List.set_cons_zero, List.set_cons_succ])
    refine wpAnyH_take (i := 22) (v := ?_) (getOf rfl) (by kernel_rfl) (by kernel_rfl) (by kernel_rfl) (fun _ _ _ h => h) (Or.inl ⟨by rfl, ?_⟩) hHeld ?_
    rotate_left
    · (intro w hSw; (try dsimp only at hSw); go_simp; (try with_reducible rfl))
    (try simp only [Act.put, List.setIfInBounds_toArray, List.set_cons_zero, List.set_cons_succ])
    refine wpAnyH_done (by kernel_rfl) ?_ _
    go_wp2_with fail
    go_ret
    exact ⟨rfl, by assumption⟩

  · have hm := rightB_mid (n := n) hr hz
    have hm2 := rightB_mid (n := !n) hr hz
    have HM : Hid (∀ (w : World) v, RdD w v (digs DD M) → Calls Tryz.prog 22 #[.agg #[.bool n, v, .int .i64 E]] w (fun e w' => ∃ v, e = .returned (.agg #[.bool (!n), v, .int .i64 E]) ∧ RdD w' v (digs DD M) ∧ Below w.heap.size w w')) := Lib.hid (fun w v h => minus14_n h)
    have HA : Hid (∀ (w : World) v u, RdD w v (digs DD M) → RdD w u (digs DD M) → Calls Tryz.prog 21 #[.agg #[.bool n, v, .int .i64 E], .agg #[.bool (!n), u, .int .i64 E]] w (fun e w' => ∃ n' m' x' v, e = .returned (.agg #[.bool n', v, .int .i64 x']) ∧ qv ⟨n', m', x'⟩ = 0 ∧ RdD w' v (digs DD m') ∧ Below w.heap.size w w')) := Lib.hid (fun w v u h k => by
      refine (RAdd_v h k hm hm2 (by omega) (by omega)).mono ?_
      rintro e w' ⟨n', m', x', v, rfl, ⟨o, -⟩, r, hb⟩
      refine ⟨n', m', x', v, rfl, ?_, r, hb⟩
      rw [o, qv_minus]; grind)
    clear hz hr t1 t2 hm hm2
    go_enter Tryz.func7, Tryz.ntmps7
    go_upto_region 1 with fail
    have P0 := blk_a1 (w := w) (T := 28) (c := #[.bool n, .slice a ll k, .int .i64 E]) (o := .cells #[.bool n, .slice a ll k, .int .i64 E] 28 (0, 0))
    have Q0 := blk_a2 (w := w) (T := 28) (o := .cells #[.bool n, .slice a ll k, .int .i64 E] 28 (0, 0)) (c := #[.bool n, .slice a ll k, .int .i64 E])
    have B0 : Below w.heap.size w ((w.alloc (.cells #[.bool n, .slice a ll k, .int .i64 E] 28 (0, 0))).alloc (.cells #[.bool n, .slice a ll k, .int .i64 E] 28 (0, 0))) := below_2
    have x0 := h.below B0
    generalize (w.alloc (.cells #[.bool n, .slice a ll k, .int .i64 E] 28 (0, 0))).alloc (.cells #[.bool n, .slice a ll k, .int .i64 E] 28 (0, 0)) = w0 at *
    have Dw : Below w0.heap.size w0 w0.drew := below_drewN (Below.refl _ _) 1
    have Pd := P0.below Dw; have Qd := Q0.below Dw; have xd := x0.below Dw; have Bd := B0.trans (Dw.mono B0.size)
    have zd := Lib.hid (And.intro (cells33 Pd) (cells33 Qd))
    clear P0 Q0 B0 x0 Dw h
    go_region_held3 (fun w' => (w'.cell? ⟨w.heap.size, 0, none⟩ = some (.bool n) ∧ w'.cell? ⟨w.heap.size, 1, none⟩ = some (.slice a ll k) ∧ w'.cell? ⟨w.heap.size, 2, none⟩ = some (.int .i64 E)) ∧ (w'.cell? ⟨w.heap.size + 1, 0, none⟩ = some (.bool n) ∧ w'.cell? ⟨w.heap.size + 1, 1, none⟩ = some (.slice a ll k) ∧ w'.cell? ⟨w.heap.size + 1, 2, none⟩ = some (.int .i64 E)))
      (first | exact zd.out | exact z1.out | exact z2.out | exact z3.out | exact z4.out | exact z5.out)
      (first
        | (go_at_call 19; (with_reducible refine (HR.out _ _ xd).mono ?_); rintro e y1 ⟨rfl, hz1⟩; have x1 := xd.below hz1; have P1 := Pd.below hz1; have Q1 := Qd.below hz1; have B1 := Bd.trans (hz1.mono Bd.size); have z1 := Lib.hid (And.intro (cells33 P1) (cells33 Q1)))
        | (go_at_call 19; (with_reducible refine (HR.out _ _ x1).mono ?_); rintro e y2 ⟨rfl, hz2⟩; have x2 := x1.below hz2; have P2 := P1.below hz2; have Q2 := Q1.below hz2; have B2 := B1.trans (hz2.mono B1.size); have z2 := Lib.hid (And.intro (cells33 P2) (cells33 Q2)))
        | (go_at_call 22; (with_reducible refine (HM.out _ _ x2).mono ?_); rintro e y3 ⟨vm, rfl, tm3, hz3⟩; obtain ⟨am, km, rfl, -⟩ := tm3.view; have x3 := x2.below hz3; have P3 := P2.below hz3; have Q3 := Q2.below hz3; have B3 := B2.trans (hz3.mono B2.size); have z3 := Lib.hid (And.intro (cells33 P3) (cells33 Q3)))
        | (go_at_call 21; (with_reducible refine (HA.out _ _ _ x3 tm3).mono ?_); rintro e y4 ⟨n4, m4, e4, v4, rfl, o4, ts4, hz4⟩; obtain ⟨a4, k4, rfl, -⟩ := ts4.view; have x4 := x3.below hz4; have P4 := P3.below hz4; have Q4 := Q3.below hz4; have B4 := B3.trans (hz4.mono B3.size); have z4 := Lib.hid (And.intro (cells33 P4) (cells33 Q4)))
        | (go_at_call 20; (with_reducible refine (RSign_z ts4 o4).mono ?_); rintro e y5 ⟨rfl, hz5⟩; have x5 := x4.below hz5; have P5 := P4.below hz5; have Q5 := Q4.below hz5; have B5 := B4.trans (hz5.mono B4.size); have z5 := Lib.hid (And.intro (cells33 P5) (cells33 Q5)))
        | fail)
    all_goals
      go_wp2_with fail
      go_ret
      exact ⟨rfl, by assumption⟩

end Go.Proofs.YthmaoohjhnpamaaGreatDoor
