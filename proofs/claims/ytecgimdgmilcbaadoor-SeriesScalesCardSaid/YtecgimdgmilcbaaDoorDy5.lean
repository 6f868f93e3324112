/- dyad.Cmp, Of, Make by their contracts. Conditions: the numbers are short; math/bits' table stands in its variable. -/
import Derived.Test.YtecgimdgmilcbaaDoorDy4
namespace Go.Proofs.YtecgimdgmilcbaaDoor
set_option maxRecDepth 100000
open Go.RowKit Go.ChangeShapes Go.WideShapes

theorem signD_bare {neg n' : Bool} {M M' : Nat} {E E' : Int} (e : bareD ⟨neg, M, E⟩ = ⟨n', M', E'⟩) : signD ⟨neg, M, E⟩ = signD ⟨n', M', E'⟩ := by
  rw [← e]
  by_cases h0 : M = 0
  · rw [bareD_zero h0]; unfold signD; simp [h0]
  · have h1 : (bareD ⟨neg, M, E⟩).m ≠ 0 := fun h => h0 ((bareD_m_zero _).1 h)
    have h2 : (bareD ⟨neg, M, E⟩).neg = neg := by rw [bareD_pos h0]
    unfold signD
    rw [if_neg h0, if_neg h1, h2]

theorem cmpN_range (a b : Nat) : -1 ≤ cmpN a b ∧ cmpN a b ≤ 1 := by
  unfold cmpN
  split
  · exact ⟨Int.le_refl _, by omega⟩
  · split <;> omega

set_option maxHeartbeats 1000000 in
theorem Cmp_n {w : World} {v u : Value} {neg n' neg2 n2' : Bool} {M M' M2 M2' : Nat} {E E' E2 E2' c : Int} (h : Num w v M) (h' : Num w u M2) (hT : Tab w) (h1 : -9223372036854775808 ≤ E) (h2 : E ≤ 9223372036854775807) (h3 : -9223372036854775808 ≤ E2) (h4 : E2 ≤ 9223372036854775807)
    (e : bareD ⟨neg, M, E⟩ = ⟨n', M', E'⟩) (e2 : bareD ⟨neg2, M2, E2⟩ = ⟨n2', M2', E2'⟩) (sM : bitN M ≤ 400000) (sM2 : bitN M2 ≤ 400000) (hc : cmpD ⟨n', M', E'⟩ ⟨n2', M2', E2'⟩ = c) :
    Calls Tryd.prog 30 #[.agg #[.bool neg, v, .int .i64 E], .agg #[.bool neg2, u, .int .i64 E2]] w (fun e w' => e = .returned (.int .i64 c) ∧ Below w.heap.size w w') := by
  obtain ⟨s, hs⟩ : ∃ s, signD ⟨neg, M, E⟩ = s := ⟨_, rfl⟩
  obtain ⟨s2, hs2⟩ : ∃ s, signD ⟨neg2, M2, E2⟩ = s := ⟨_, rfl⟩
  have g1 := signD_bare e; have g2 := signD_bare e2
  rw [hs] at g1; rw [hs2] at g2
  have es := Lib.hid hs; have es2 := Lib.hid hs2
  unfold cmpD at hc
  rw [← g1, ← g2] at hc
  clear g1 g2
  have HC := Lib.hid (fun w => compare_I (w := w) s s2)
  have rs : -1 ≤ s ∧ s ≤ 1 := by rw [← hs]; unfold signD; split; · omega
                                 · split <;> omega
  have z1 : M = 0 → s = 0 := fun h => by rw [← hs]; unfold signD; rw [if_pos h]
  have z2 : M2 = 0 → s2 = 0 := fun h => by rw [← hs2]; unfold signD; rw [if_pos h]
  obtain ⟨av, nv, kv, rfl⟩ := h.slice
  obtain ⟨au, nu, ku, rfl⟩ := h'.slice
  have H := Lib.hid h; have H' := Lib.hid h'; have HT := Lib.hid hT
  have rs2 : -1 ≤ s2 ∧ s2 ≤ 1 := by rw [← hs2]; unfold signD; split; · omega
                                    · split <;> omega
  clear hs hs2
  go_enter Tryd.func30, Tryd.ntmps30
  go_upto_region 1 with fail
  have P0 : Blk ((w.alloc (.cells #[.bool neg, .slice av nv kv, .int .i64 E] 48)).alloc (.cells #[.bool neg2, .slice au nu ku, .int .i64 E2] 48)) w.heap.size #[.bool neg, .slice av nv kv, .int .i64 E] := blk_a1
  have Q0 : Blk ((w.alloc (.cells #[.bool neg, .slice av nv kv, .int .i64 E] 48)).alloc (.cells #[.bool neg2, .slice au nu ku, .int .i64 E2] 48)) (w.heap.size + 1) #[.bool neg2, .slice au nu ku, .int .i64 E2] := blk_a2
  have B0 : Below w.heap.size w ((w.alloc (.cells #[.bool neg, .slice av nv kv, .int .i64 E] 48)).alloc (.cells #[.bool neg2, .slice au nu ku, .int .i64 E2] 48)) := below_2
  generalize (w.alloc (.cells #[.bool neg, .slice av nv kv, .int .i64 E] 48)).alloc (.cells #[.bool neg2, .slice au nu ku, .int .i64 E2] 48) = w0 at *
  generalize hb0 : w.heap.size = b0 at *
  go_cut [5, 6] (fun x y wx => x = .int .i64 s ∧ y = .int .i64 s2 ∧ Blk wx b0 #[.bool neg, .slice av nv kv, .int .i64 E] ∧ Blk wx (b0 + 1) #[.bool neg2, .slice au nu ku, .int .i64 E2] ∧ Below b0 w wx)
  case first =>
    have hm : Num w0.drew _ M := (h.below (hb0 ▸ B0)).below (below_drewN (Below.refl _ _) 1)
    have hg : Num w0.drew _ M2 := (h'.below (hb0 ▸ B0)).below (below_drewN (Below.refl _ _) 1)
    have PD : Blk w0.drew _ _ := P0.below (below_drewN (Below.refl _ _) 1)
    have QD : Blk w0.drew _ _ := Q0.below (below_drewN (Below.refl _ _) 1)
    have BD : Below b0 w w0.drew := below_drewN B0 1
    clear h h' P0 Q0 B0
    obtain ⟨cP0_0, cP1_0, cP2_0, fP0_0, fP1_0, fP2_0, sP_0⟩ := PD.open3
    obtain ⟨cQ0_0, cQ1_0, cQ2_0, fQ0_0, fQ1_0, fQ2_0, sQ_0⟩ := QD.open3
    go_region_held3 (fun w' => w'.cell? ⟨b0, 0, none⟩ = some (.bool neg) ∧ w'.cell? ⟨b0, 1, none⟩ = some (.slice av nv kv) ∧ w'.cell? ⟨b0, 2, none⟩ = some (.int .i64 E) ∧ w'.cell? ⟨b0 + 1, 0, none⟩ = some (.bool neg2) ∧ w'.cell? ⟨b0 + 1, 1, none⟩ = some (.slice au nu ku) ∧ w'.cell? ⟨b0 + 1, 2, none⟩ = some (.int .i64 E2)) (first | exact ⟨cP0_0, cP1_0, cP2_0, cQ0_0, cQ1_0, cQ2_0⟩ | exact ⟨cP0_1, cP1_1, cP2_1, cQ0_1, cQ1_1, cQ2_1⟩ | exact ⟨cP0_2, cP1_2, cP2_2, cQ0_2, cQ1_2, cQ2_2⟩)
    (first
      | (go_at_call 57; (with_reducible refine (Sign_n hm es.out).mono ?_); rintro e w1 ⟨rfl, hb1⟩; have B1 := hb1; have m1 := hm.below hb1; have g1 := hg.below hb1; have P1 := PD.below hb1; have Q1 := QD.below hb1; clear hm hg PD QD; obtain ⟨cP0_1, cP1_1, cP2_1, fP0_1, fP1_1, fP2_1, sP_1⟩ := P1.open3; obtain ⟨cQ0_1, cQ1_1, cQ2_1, fQ0_1, fQ1_1, fQ2_1, sQ_1⟩ := Q1.open3)
      | (go_at_call 57; (with_reducible refine (Sign_n g1 es2.out).mono ?_); rintro e w2 ⟨rfl, hb2⟩; have B2 := B1.trans (hb2.mono B1.size); have m2 := m1.below hb2; have g2 := g1.below hb2; have P2 := P1.below hb2; have Q2 := Q1.below hb2; clear m1 g1 P1 Q1; clear cP0_1 cP1_1 cP2_1 fP0_1 fP1_1 fP2_1 sP_1; obtain ⟨cP0_2, cP1_2, cP2_2, fP0_2, fP1_2, fP2_2, sP_2⟩ := P2.open3; clear cQ0_1 cQ1_1 cQ2_1 fQ0_1 fQ1_1 fQ2_1 sQ_1; obtain ⟨cQ0_2, cQ1_2, cQ2_2, fQ0_2, fQ1_2, fQ2_2, sQ_2⟩ := Q2.open3)
      | fail)
    all_goals
      go_wp2_with fail
      go_meet
      exact ⟨rfl, rfl, P2, Q2, BD.trans (B2.mono (hb0 ▸ BD.size))⟩
  case rest =>
    obtain ⟨rfl, rfl, P1, Q1, B1⟩ := hcut
    clear P0 Q0 B0 h h'
    by_cases hx : s ≠ s2 ∨ s = 0
    · rw [if_pos hx] at hc
      rw [hc] at HC
      clear hc z1 z2
      by_cases hx1 : s = s2
      · obtain rfl : s = 0 := by rcases hx with h | h; · exact absurd hx1 h
                                 · exact h
        subst hx1
        go_wp2_with (go_at_call 49; (with_reducible refine (HC.out _).mono ?_); rintro e w9 ⟨rfl, rfl⟩)
        all_goals
          go_ret
          exact ⟨rfl, hb0 ▸ B1⟩
      · have hx2 : (s == s2) = false := beq_false_of_ne hx1
        clear hx
        go_wp2_with (go_at_call 49; (with_reducible refine (HC.out _).mono ?_); rintro e w9 ⟨rfl, rfl⟩)
        all_goals
          go_ret
          exact ⟨rfl, hb0 ▸ B1⟩
    · rw [if_neg hx] at hc
      have hss : s = s2 := by
        rcases Int.lt_trichotomy s s2 with h | h | h
        · exact absurd (.inl (by omega)) hx
        · exact h
        · exact absurd (.inl (by omega)) hx
      have hs0 : s ≠ 0 := fun h => hx (.inr h)
      have n1 : M ≠ 0 := fun h => hs0 (z1 h)
      have n2 : M2 ≠ 0 := fun h => hs0 (hss ▸ z2 h)
      obtain ⟨cm, hcm⟩ : ∃ cm, cmpM ⟨n', M', E'⟩ ⟨n2', M2', E2'⟩ = cm := ⟨_, rfl⟩
      have rc : -1 ≤ cm ∧ cm ≤ 1 := by rw [← hcm]; exact cmpN_range _ _
      rw [hcm] at hc
      have ecm := Lib.hid hcm
      have ee := Lib.hid e; have ee2 := Lib.hid e2
      have hsb : (s == 0) = false := beq_false_of_ne hs0
      have hw : IntKind.i64.wrap (s * cm) = c := by
        rw [IntKind.wrap_i64, ← hc]
        have : s = -1 ∨ s = 1 := by omega
        rcases this with rfl | rfl <;> omega
      clear hc z1 z2 hcm hx e e2
      subst hss
      have hm : Num wc _ M := H.out.below (hb0 ▸ B1)
      have hg : Num wc _ M2 := H'.out.below (hb0 ▸ B1)
      have hT0 : Tab wc := HT.out.below (hb0 ▸ B1)
      have BC := B1
      obtain ⟨cP0_0, cP1_0, cP2_0, fP0_0, fP1_0, fP2_0, sP_0⟩ := P1.open3
      obtain ⟨cQ0_0, cQ1_0, cQ2_0, fQ0_0, fQ1_0, fQ2_0, sQ_0⟩ := Q1.open3
      go_wp2_with
      (first
        | (go_at_call 58; (with_reducible refine (size_n hm hg hT0 h1 h2 h3 h4 ee.out ee2.out n1 n2 sM sM2 ecm.out).mono ?_); rintro e w1 ⟨rfl, hb1⟩; have B1 := hb1; have m1 := hm.below hb1; have g1 := hg.below hb1; have T1 := hT0.below hb1; clear hm hg hT0)
        | fail)
      all_goals
        go_ret
        exact ⟨rfl, hb0 ▸ BC.trans (hb1.mono (hb0 ▸ BC.size))⟩

/-- dyad.Make: as dyad.Bare. -/
theorem Make_ok {w : World} {v : Value} {neg n' : Bool} {M M' : Nat} {E E' : Int} (h : Num w v M) (hT : Tab w) (h1 : -9223372036854775808 ≤ E) (h2 : E ≤ 9223372036854775807) (e : bareD ⟨neg, M, E⟩ = ⟨n', M', E'⟩) (hf : fitsE E' = true) :
    Calls Tryd.prog 52 #[.bool neg, v, .int .i64 E] w (fun e w' => ∃ v, e = .returned (.tuple #[.agg #[.bool n', v, .int .i64 E'], .int .i64 0]) ∧ RdN w' v (digs BB M') ∧ Below w.heap.size w w') := by
  obtain ⟨a, n, k, rfl⟩ := h.slice
  have e := Lib.hid e
  go_enter Tryd.func52, Tryd.ntmps52
  go_wp2_with
  (first
    | (go_at_call 73; (with_reducible refine (Bare_ok (h.below (below_alloc _ _)) (hT.below (below_alloc _ _)) h1 h2 e.out hf).mono ?_); rintro e w1 ⟨vd1, rfl, d1, hb1⟩; have B1 := (below_alloc _ _).trans (hb1.mono (below_alloc _ _).size); have m1 := ((h.below (below_alloc _ _))).below hb1; have T1 := ((hT.below (below_alloc _ _))).below hb1; have R1 := ((blk_new)).below hb1; obtain ⟨cR0_1, cR1_1, cR2_1, fR0_1, fR1_1, fR2_1, sR_1⟩ := R1.open3; obtain ⟨ad1, kd1, rfl, -⟩ := d1.view; try simp only [List.length_nil] at d1)
    | fail)
  obtain ⟨q0, q1, q2, -⟩ := (R1.set3 (.bool n') (.slice ad1 (digs BB M').length kd1) (.int .i64 E')).open3
  refine bodyPost_ret (v := .tuple #[.agg #[.bool n', .slice ad1 (digs BB M').length kd1, .int .i64 E'], .int .i64 0]) ?_ rfl ?_
  · simp [results, Tryd.results52, go_sem, q0, q1, q2]
  · exact ⟨_, rfl, d1.set3 R1 dcells _ _ _, below_set3 B1 (Nat.le_refl _) _ _ _⟩
theorem Make_long {w : World} {v : Value} {neg n' : Bool} {M M' : Nat} {E E' : Int} (h : Num w v M) (hT : Tab w) (h1 : -9223372036854775808 ≤ E) (h2 : E ≤ 9223372036854775807) (e : bareD ⟨neg, M, E⟩ = ⟨n', M', E'⟩) (hf : fitsE E' = false) :
    Calls Tryd.prog 52 #[.bool neg, v, .int .i64 E] w (fun e w' => e = .returned (.tuple #[.agg #[.bool false, .slice none 0 0, .int .i64 0], .int .i64 2]) ∧ Below w.heap.size w w') := by
  obtain ⟨a, n, k, rfl⟩ := h.slice
  have e := Lib.hid e
  go_enter Tryd.func52, Tryd.ntmps52
  go_wp2_with
  (first
    | (go_at_call 73; (with_reducible refine (Bare_long (h.below (below_alloc _ _)) (hT.below (below_alloc _ _)) h1 h2 e.out hf).mono ?_); rintro e w1 ⟨rfl, hb1⟩; have B1 := (below_alloc _ _).trans (hb1.mono (below_alloc _ _).size); have m1 := ((h.below (below_alloc _ _))).below hb1; have T1 := ((hT.below (below_alloc _ _))).below hb1; have R1 := ((blk_new)).below hb1; obtain ⟨cR0_1, cR1_1, cR2_1, fR0_1, fR1_1, fR2_1, sR_1⟩ := R1.open3)
    | fail)
  obtain ⟨q0, q1, q2, -⟩ := (R1.set3 (.bool false) (.slice none 0 0) (.int .i64 0)).open3
  refine bodyPost_ret (v := .tuple #[.agg #[.bool false, .slice none 0 0, .int .i64 0], .int .i64 2]) ?_ rfl ?_
  · simp [results, Tryd.results52, go_sem, q0, q1, q2]
  · exact ⟨rfl, below_set3 B1 (Nat.le_refl _) _ _ _⟩

theorem rd_lit2 {w : World} {o : Obj} {n : Nat} {T : TypeId} {fz : Nat × Nat} : RdN ((w.alloc o).alloc (.cells #[.int .u64 (n : Int)] T fz)) (.slice (some ⟨w.heap.size + 1, 0, none⟩) 1 1) [n] := rd_one (heap_new2 _ _ _) trivial
end Go.Proofs.YtecgimdgmilcbaaDoor
