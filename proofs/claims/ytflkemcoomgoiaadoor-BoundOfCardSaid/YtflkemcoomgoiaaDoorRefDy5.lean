/- planimeterref05.Cmp by its contract. Conditions: the numbers are short. -/
import Derived.Test.YtflkemcoomgoiaaDoorRefDy4
import Derived.Test.YtflkemcoomgoiaaDoorDy5
namespace Go.Proofs.YtflkemcoomgoiaaDoor
set_option maxRecDepth 100000
open Go.RowKit Go.ChangeShapes Go.WideShapes

theorem RdD.set1 {w : World} {v : Value} {l : List Nat} {b : Nat} {c : Array Value} (h : RdD w v l) (hB : Blk w b c) (hc : ∀ x ∈ c.toList, ∀ n : Nat, x ≠ D32 n) (x : Value) : RdD (w.setCell ⟨b, 0, none⟩ x) v l := by
  have ha : Rd (fun g => g ≠ b) w v (l.map D32) := by
    obtain ⟨a, k, h1, h2, h3, h4, h5⟩ := h
    obtain ⟨hb, T, hh⟩ := hB
    refine ⟨a, k, h1, h2, h3, h4, fun j u hj => ?_⟩
    obtain ⟨g, off, e1, _, e3⟩ := h5 j u hj
    refine ⟨g, off, e1, fun e => ?_, e3⟩
    subst e
    rw [World.cell?, hh] at e3
    obtain ⟨n, -, rfl⟩ := List.mem_map.1 (List.mem_of_getElem? hj)
    have e4 : c[off + j]? = some (D32 n) := by simpa using e3
    exact hc _ (by rw [← Array.getElem?_toList] at e4; exact List.mem_of_getElem? e4) n rfl
  have h2 := ha.keep (S := fun g => g = b) ((Fr.refl (fun g => g = b) w).setCell (p := ⟨b, 0, none⟩) rfl x) (fun _ h => h)
  exact h2.mono (fun _ _ _ => trivial)

/-- The sign of the difference is the order. -/
theorem sign_diff {neg n3 : Bool} {X Y M3 : Nat} {low : Int} (h : addR neg (!neg) X Y = (n3, M3)) : signD ⟨n3, M3, low⟩ = (if neg then -1 else 1) * cmpN X Y := by
  unfold addR at h
  rw [if_neg (by cases neg <;> simp)] at h
  rcases Nat.lt_trichotomy X Y with h1 | h1 | h1
  · rw [if_neg (by omega)] at h
    injection h with e1 e2
    subst e1 e2
    unfold signD
    rw [cmpN_lt h1, if_neg (show Y - X ≠ 0 by omega)]
    cases neg <;> rfl
  · subst h1
    rw [if_pos (Nat.le_refl _)] at h
    injection h with e1 e2
    subst e1 e2
    unfold signD
    rw [cmpN_eq, if_pos (show X - X = 0 by omega), Int.mul_zero]
  · rw [if_pos (by omega)] at h
    injection h with e1 e2
    subst e1 e2
    unfold signD
    rw [cmpN_gt h1, if_neg (show X - Y ≠ 0 by omega), Int.mul_one]

set_option maxHeartbeats 2000000 in
theorem RCmp_n {w : World} {u u2 : Value} {neg neg2 : Bool} {M M2 : Nat} {E E2 c : Int} (h : RdD w u (digs DD M)) (k : RdD w u2 (digs DD M2)) (sM : bitN M ≤ 200000) (sM2 : bitN M2 ≤ 200000) (h1 : -4294967296 ≤ E) (h2 : E ≤ 4294967296) (h3 : -4294967296 ≤ E2) (h4 : E2 ≤ 4294967296)
    (hc : cmpD ⟨neg, M, E⟩ ⟨neg2, M2, E2⟩ = c) :
    Calls Tryd.prog 9 #[.agg #[.bool neg, u, .int .i64 E], .agg #[.bool neg2, u2, .int .i64 E2]] w (fun e w' => e = .returned (.int .i64 c) ∧ Below w.heap.size w w') := by
  obtain ⟨s, hs⟩ : ∃ s, signD ⟨neg, M, E⟩ = s := ⟨_, rfl⟩
  obtain ⟨s2, hs2⟩ : ∃ s, signD ⟨neg2, M2, E2⟩ = s := ⟨_, rfl⟩
  obtain ⟨t1, ht1⟩ : ∃ t, topD ⟨neg, M, E⟩ = t := ⟨_, rfl⟩
  obtain ⟨t2, ht2⟩ : ∃ t, topD ⟨neg2, M2, E2⟩ = t := ⟨_, rfl⟩
  unfold cmpD at hc
  rw [hs, hs2] at hc
  have HS1 := Lib.hid (fun w v (h : RdD w v (digs DD M)) => RSign_n h hs)
  have HS2 := Lib.hid (fun w v (h : RdD w v (digs DD M2)) => RSign_n h hs2)
  have HT1 := Lib.hid (fun w v (h : RdD w v (digs DD M)) => by
    have := RTop_n (neg := neg) (E := E) h sM h1 h2
    rw [ht1] at this; exact this)
  have HT2 := Lib.hid (fun w v (h : RdD w v (digs DD M2)) => by
    have := RTop_n (neg := neg2) (E := E2) h sM2 h3 h4
    rw [ht2] at this; exact this)
  have eS := Lib.hid hs; have eS2 := Lib.hid hs2
  have et1 := Lib.hid ht1; have et2 := Lib.hid ht2
  obtain ⟨au, nu, ku, rfl⟩ := h.slice
  obtain ⟨av, nv, kv, rfl⟩ := k.slice
  clear hs hs2 ht1 ht2
  go_enter Tryd.func9, Tryd.ntmps9
  go_upto_region 1 with fail
  have P0 : Blk ((w.alloc (.cells #[.bool neg, .slice au nu ku, .int .i64 E] 31)).alloc (.cells #[.bool neg2, .slice av nv kv, .int .i64 E2] 31)) w.heap.size #[.bool neg, .slice au nu ku, .int .i64 E] := blk_a1
  have Q0 : Blk ((w.alloc (.cells #[.bool neg, .slice au nu ku, .int .i64 E] 31)).alloc (.cells #[.bool neg2, .slice av nv kv, .int .i64 E2] 31)) (w.heap.size + 1) #[.bool neg2, .slice av nv kv, .int .i64 E2] := blk_a2
  have B0 : Below w.heap.size w ((w.alloc (.cells #[.bool neg, .slice au nu ku, .int .i64 E] 31)).alloc (.cells #[.bool neg2, .slice av nv kv, .int .i64 E2] 31)) := below_2
  have x0 := h.below B0; have y0 := k.below B0
  generalize ((w.alloc (.cells #[.bool neg, .slice au nu ku, .int .i64 E] 31)).alloc (.cells #[.bool neg2, .slice av nv kv, .int .i64 E2] 31)) = w0 at *
  go_cut [5, 6] (fun v5 v6 w' => v5 = .int .i64 s ∧ v6 = .int .i64 s2 ∧ RdD w' (.slice au nu ku) (digs DD M) ∧ RdD w' (.slice av nv kv) (digs DD M2) ∧ Blk w' w.heap.size #[.bool neg, .slice au nu ku, .int .i64 E] ∧ Blk w' (w.heap.size + 1) #[.bool neg2, .slice av nv kv, .int .i64 E2] ∧ Below w.heap.size w w')
  case first =>
    have hAD1 : Below w0.heap.size w0 w0.drew := below_drewN (Below.refl _ _) 1
    have x1 := x0.below hAD1; have y1 := y0.below hAD1; have P1 := P0.below hAD1; have Q1 := Q0.below hAD1
    have B1 := B0.trans (hAD1.mono B0.size)
    obtain ⟨cP0_1, cP1_1, cP2_1, fP0_1, fP1_1, fP2_1, sP_1⟩ := P1.open3
    obtain ⟨cQ0_1, cQ1_1, cQ2_1, fQ0_1, fQ1_1, fQ2_1, sQ_1⟩ := Q1.open3
    go_region_held3 (fun w' => (w'.cell? ⟨w.heap.size, 0, none⟩ = some (.bool neg) ∧ w'.cell? ⟨w.heap.size, 1, none⟩ = some (.slice au nu ku) ∧ w'.cell? ⟨w.heap.size, 2, none⟩ = some (.int .i64 E)) ∧ w'.cell? ⟨w.heap.size + 1, 0, none⟩ = some (.bool neg2) ∧ w'.cell? ⟨w.heap.size + 1, 1, none⟩ = some (.slice av nv kv) ∧ w'.cell? ⟨w.heap.size + 1, 2, none⟩ = some (.int .i64 E2)) (first | with_reducible exact ⟨⟨cP0_1, cP1_1, cP2_1⟩, cQ0_1, cQ1_1, cQ2_1⟩ | with_reducible exact ⟨⟨cP0_2, cP1_2, cP2_2⟩, cQ0_2, cQ1_2, cQ2_2⟩ | with_reducible exact ⟨⟨cP0_3, cP1_3, cP2_3⟩, cQ0_3, cQ1_3, cQ2_3⟩)
    (first
      | (go_at_call 23; (with_reducible refine (HS1.out _ _ x1).mono ?_); rintro e w2 ⟨rfl, hb2⟩; have B2 := B1.trans (hb2.mono B1.size); have x2 := x1.below hb2; have y2 := y1.below hb2; have P2 := P1.below hb2; have Q2 := Q1.below hb2; clear x1 y1 P1 Q1; obtain ⟨cP0_2, cP1_2, cP2_2, fP0_2, fP1_2, fP2_2, sP_2⟩ := P2.open3; obtain ⟨cQ0_2, cQ1_2, cQ2_2, fQ0_2, fQ1_2, fQ2_2, sQ_2⟩ := Q2.open3)
      | (go_at_call 23; (with_reducible refine (HS2.out _ _ y2).mono ?_); rintro e w3 ⟨rfl, hb3⟩; have B3 := B2.trans (hb3.mono B2.size); have x3 := x2.below hb3; have y3 := y2.below hb3; have P3 := P2.below hb3; have Q3 := Q2.below hb3; clear x2 y2 P2 Q2; clear cP0_2 cP1_2 cP2_2 fP0_2 fP1_2 fP2_2 sP_2; obtain ⟨cP0_3, cP1_3, cP2_3, fP0_3, fP1_3, fP2_3, sP_3⟩ := P3.open3; clear cQ0_2 cQ1_2 cQ2_2 fQ0_2 fQ1_2 fQ2_2 sQ_2; obtain ⟨cQ0_3, cQ1_3, cQ2_3, fQ0_3, fQ1_3, fQ2_3, sQ_3⟩ := Q3.open3)
      | fail)
    all_goals
      go_wp2_with fail
      go_meet
      exact ⟨rfl, rfl, x3, y3, P3, Q3, B3⟩
  case rest =>
    obtain ⟨rfl, rfl, x1, y1, P1, Q1, B1⟩ := hcut
    clear P0 Q0 B0 x0 y0 h k
    generalize hwx : wc = w1 at *
    clear hwx
    by_cases hx : s ≠ s2 ∨ s = 0
    · rw [if_pos hx] at hc
      unfold cmpI at hc
      clear P1 Q1 x1 y1
      rcases Int.lt_trichotomy s s2 with hl | hl | hl
      · rw [if_pos hl] at hc
        subst hc
        have d1 : decide (s < s2) = true := decide_eq_true hl
        have d2 : (s == s2) = false := beq_false_of_ne (by omega)
        clear hx
        go_wp2_with fail
        all_goals
          go_ret
          exact ⟨rfl, B1⟩
      · subst hl
        obtain rfl : s = 0 := by rcases hx with h | h; · exact absurd rfl h
                                 · exact h
        rw [if_neg (by omega), if_neg (by omega)] at hc
        subst hc
        clear hx
        go_wp2_with fail
        all_goals
          go_ret
          exact ⟨rfl, B1⟩
      · rw [if_neg (by omega), if_pos hl] at hc
        subst hc
        have d1 : decide (s < s2) = false := decide_eq_false (by omega)
        have d3 : decide (s2 < s) = true := decide_eq_true hl
        have d2 : (s == s2) = false := beq_false_of_ne (by omega)
        clear hx
        go_wp2_with fail
        all_goals
          go_ret
          exact ⟨rfl, B1⟩
    · rw [if_neg hx] at hc
      have hss : s2 = s := by
        rcases Int.lt_trichotomy s s2 with h | h | h
        · exact absurd (.inl (by omega)) hx
        · exact h.symm
        · exact absurd (.inl (by omega)) hx
      have hs0 : s ≠ 0 := fun h => hx (.inr h)
      have n1 : M ≠ 0 := fun h => hs0 (by rw [← eS.out]; unfold signD; rw [if_pos h])
      have n2 : M2 ≠ 0 := fun h => hs0 (by rw [← hss, ← eS2.out]; unfold signD; rw [if_pos h])
      have hsn : (if neg then (-1 : Int) else 1) = s := by rw [← eS.out]; unfold signD; rw [if_neg n1]
      have hnn : neg2 = neg := by
        have h5 : (if neg2 then (-1 : Int) else 1) = s := by rw [← hss, ← eS2.out]; unfold signD; rw [if_neg n2]
        rw [← hsn] at h5
        cases neg <;> cases neg2 <;> first | rfl | exact absurd h5 (by decide)
      have hsb : (s == 0) = false := beq_false_of_ne hs0
      have hso : s ≠ 0 := hs0
      subst hss hnn
      clear hx
      go_upto_region 8 with fail
      have hAD2 : Below w1.heap.size w1 w1.drew := below_drewN (Below.refl _ _) 1
      have x2 := x1.below hAD2; have y2 := y1.below hAD2; have P2 := P1.below hAD2; have Q2 := Q1.below hAD2
      have B2 := B1.trans (hAD2.mono B1.size)
      obtain ⟨cP0_2, cP1_2, cP2_2, fP0_2, fP1_2, fP2_2, sP_2⟩ := P2.open3
      obtain ⟨cQ0_2, cQ1_2, cQ2_2, fQ0_2, fQ1_2, fQ2_2, sQ_2⟩ := Q2.open3
      by_cases htt : t1 = t2
      · subst htt
        obtain ⟨n3, M3, hr⟩ : ∃ a b, addR neg2 (!neg2) (M * 2 ^ (E - min E E2).toNat) (M2 * 2 ^ (E2 - min E E2).toNat) = (a, b) := ⟨_, _, rfl⟩
        have hsd : signD ⟨n3, M3, min E E2⟩ = c := by
          rw [sign_diff hr, hsn, ← hc]; rfl
        have q1 := et1.out; have q2 := et2.out
        unfold topD at q1 q2
        simp only at q1 q2
        have u1 : E - min E E2 = ((E - min E E2).toNat : Nat) := (Int.toNat_of_nonneg (by omega)).symm
        have u2 : E2 - min E E2 = ((E2 - min E E2).toNat : Nat) := (Int.toNat_of_nonneg (by omega)).symm
        have AD := Lib.hid (fun w v u (h : RdD w v (digs DD M)) (k : RdD w u (digs DD M2)) => RAdd_n (neg := neg2) (neg2 := !neg2) h k n1 n2 rfl u1 u2 rfl rfl (by omega) (by omega) hr)
        have SG := Lib.hid (fun w v (h : RdD w v (digs DD M3)) => RSign_n h hsd)
        obtain ⟨lw, hlw⟩ : ∃ l, min E E2 = l := ⟨_, rfl⟩
        rw [hlw] at AD SG
        clear q1 q2 u1 u2 hsd hr hc hsn hlw
        go_region_held3 (fun w' => (w'.cell? ⟨w.heap.size, 0, none⟩ = some (.bool neg2) ∧ w'.cell? ⟨w.heap.size, 1, none⟩ = some (.slice au nu ku) ∧ w'.cell? ⟨w.heap.size, 2, none⟩ = some (.int .i64 E)) ∧ w'.cell? ⟨w.heap.size + 1, 0, none⟩ = some (.bool neg2) ∧ w'.cell? ⟨w.heap.size + 1, 1, none⟩ = some (.slice av nv kv) ∧ w'.cell? ⟨w.heap.size + 1, 2, none⟩ = some (.int .i64 E2)) (first | with_reducible exact ⟨⟨cP0_2, cP1_2, cP2_2⟩, cQ0_2, cQ1_2, cQ2_2⟩ | with_reducible exact ⟨⟨cP0_3, cP1_3, cP2_3⟩, cQ0_3, cQ1_3, cQ2_3⟩ | with_reducible exact ⟨⟨cP0_4, cP1_4, cP2_4⟩, cQ0_4, cQ1_4, cQ2_4⟩)
        (first
          | (go_at_call 24; (with_reducible refine (HT1.out _ _ x2).mono ?_); rintro e w3 ⟨rfl, hb3⟩; have B3 := B2.trans (hb3.mono B2.size); have x3 := x2.below hb3; have y3 := y2.below hb3; have P3 := P2.below hb3; have Q3 := Q2.below hb3; clear x2 y2 P2 Q2; obtain ⟨cP0_3, cP1_3, cP2_3, fP0_3, fP1_3, fP2_3, sP_3⟩ := P3.open3; obtain ⟨cQ0_3, cQ1_3, cQ2_3, fQ0_3, fQ1_3, fQ2_3, sQ_3⟩ := Q3.open3)
          | (go_at_call 24; (with_reducible refine (HT2.out _ _ y3).mono ?_); rintro e w4 ⟨rfl, hb4⟩; have B4 := B3.trans (hb4.mono B3.size); have x4 := x3.below hb4; have y4 := y3.below hb4; have P4 := P3.below hb4; have Q4 := Q3.below hb4; clear x3 y3 P3 Q3; clear cP0_3 cP1_3 cP2_3 fP0_3 fP1_3 fP2_3 sP_3; obtain ⟨cP0_4, cP1_4, cP2_4, fP0_4, fP1_4, fP2_4, sP_4⟩ := P4.open3; clear cQ0_3 cQ1_3 cQ2_3 fQ0_3 fQ1_3 fQ2_3 sQ_3; obtain ⟨cQ0_4, cQ1_4, cQ2_4, fQ0_4, fQ1_4, fQ2_4, sQ_4⟩ := Q4.open3)
          | fail)
        all_goals
          go_upto_region 13 with fail
          have P5 := P4.other1 (b' := w.heap.size + 1) (j := 0) (by omega) (.bool !neg2)
          have Q5 := Q4.set1 (.bool !neg2)
          have x5 := x4.set1 Q4 dcells32 (.bool !neg2)
          have y5 := y4.set1 Q4 dcells32 (.bool !neg2)
          have B5 := below_set (j := 0) B4 (show w.heap.size ≤ w.heap.size + 1 by omega) (.bool !neg2)
          clear cP0_4 cP1_4 cP2_4 fP0_4 fP1_4 fP2_4 sP_4 cQ0_4 cQ1_4 cQ2_4 fQ0_4 fQ1_4 fQ2_4 sQ_4 P4 Q4 x4 y4 B4
          generalize w4.setCell ⟨w.heap.size + 1, 0, none⟩ (.bool !neg2) = w5 at *
          obtain ⟨cP0_5, cP1_5, cP2_5, fP0_5, fP1_5, fP2_5, sP_5⟩ := P5.open3
          obtain ⟨cQ0_5, cQ1_5, cQ2_5, fQ0_5, fQ1_5, fQ2_5, sQ_5⟩ := Q5.open3
          go_wp2_with
        (first
          | (go_at_call 25; (with_reducible refine (AD.out _ _ _ x5 y5).mono ?_); rintro e w6 ⟨vz6, rfl, z6, hb6⟩; have B6 := B5.trans (hb6.mono B5.size); have x6 := x5.below hb6; have y6 := y5.below hb6; clear x5 y5; obtain ⟨az6, kz6, rfl, -⟩ := z6.view; try simp only [List.length_nil] at z6)
          | (go_at_call 23; (with_reducible refine (SG.out _ _ z6).mono ?_); rintro e w7 ⟨rfl, hb7⟩; have B7 := B6.trans (hb7.mono B6.size); have x7 := x6.below hb7; have y7 := y6.below hb7; have z7 := z6.below hb7; clear x6 y6 z6)
          | fail)
          go_ret
          exact ⟨rfl, by assumption⟩
      · have htb : (t1 == t2) = false := beq_false_of_ne htt
        have hcm : cmpM ⟨neg2, M, E⟩ ⟨neg2, M2, E2⟩ = cmpI t1 t2 := by
          have q1 := et1.out; have q2 := et2.out
          unfold topD at q1 q2
          simp only at q1 q2
          rw [cmpM_tops n1 n2 (by simp only; omega)]
          simp only
          unfold cmpI
          rcases Int.lt_trichotomy t1 t2 with h | h | h
          · rw [if_pos (by omega), if_pos h]
          · exact absurd h htt
          · rw [if_neg (by omega), if_pos (by omega), if_neg (by omega), if_pos (by omega)]
        rw [hcm] at hc
        clear hcm
        go_region_held3 (fun w' => (w'.cell? ⟨w.heap.size, 0, none⟩ = some (.bool neg2) ∧ w'.cell? ⟨w.heap.size, 1, none⟩ = some (.slice au nu ku) ∧ w'.cell? ⟨w.heap.size, 2, none⟩ = some (.int .i64 E)) ∧ w'.cell? ⟨w.heap.size + 1, 0, none⟩ = some (.bool neg2) ∧ w'.cell? ⟨w.heap.size + 1, 1, none⟩ = some (.slice av nv kv) ∧ w'.cell? ⟨w.heap.size + 1, 2, none⟩ = some (.int .i64 E2)) (first | with_reducible exact ⟨⟨cP0_2, cP1_2, cP2_2⟩, cQ0_2, cQ1_2, cQ2_2⟩ | with_reducible exact ⟨⟨cP0_3, cP1_3, cP2_3⟩, cQ0_3, cQ1_3, cQ2_3⟩ | with_reducible exact ⟨⟨cP0_4, cP1_4, cP2_4⟩, cQ0_4, cQ1_4, cQ2_4⟩)
        (first
          | (go_at_call 24; (with_reducible refine (HT1.out _ _ x2).mono ?_); rintro e w3 ⟨rfl, hb3⟩; have B3 := B2.trans (hb3.mono B2.size); have x3 := x2.below hb3; have y3 := y2.below hb3; have P3 := P2.below hb3; have Q3 := Q2.below hb3; clear x2 y2 P2 Q2; obtain ⟨cP0_3, cP1_3, cP2_3, fP0_3, fP1_3, fP2_3, sP_3⟩ := P3.open3; obtain ⟨cQ0_3, cQ1_3, cQ2_3, fQ0_3, fQ1_3, fQ2_3, sQ_3⟩ := Q3.open3)
          | (go_at_call 24; (with_reducible refine (HT2.out _ _ y3).mono ?_); rintro e w4 ⟨rfl, hb4⟩; have B4 := B3.trans (hb4.mono B3.size); have x4 := x3.below hb4; have y4 := y3.below hb4; have P4 := P3.below hb4; have Q4 := Q3.below hb4; clear x3 y3 P3 Q3; clear cP0_3 cP1_3 cP2_3 fP0_3 fP1_3 fP2_3 sP_3; obtain ⟨cP0_4, cP1_4, cP2_4, fP0_4, fP1_4, fP2_4, sP_4⟩ := P4.open3; clear cQ0_3 cQ1_3 cQ2_3 fQ0_3 fQ1_3 fQ2_3 sQ_3; obtain ⟨cQ0_4, cQ1_4, cQ2_4, fQ0_4, fQ1_4, fQ2_4, sQ_4⟩ := Q4.open3)
          | fail)
        all_goals
          go_upto_region 9 with fail
          have hAD5 : Below w4.heap.size w4 w4.drew := below_drewN (Below.refl _ _) 1
          have x5 := x4.below hAD5; have y5 := y4.below hAD5; have P5 := P4.below hAD5; have Q5 := Q4.below hAD5
          have B5 := B4.trans (hAD5.mono B4.size)
          obtain ⟨cP0_5, cP1_5, cP2_5, fP0_5, fP1_5, fP2_5, sP_5⟩ := P5.open3
          obtain ⟨cQ0_5, cQ1_5, cQ2_5, fQ0_5, fQ1_5, fQ2_5, sQ_5⟩ := Q5.open3
          unfold cmpI at hc
          rcases Int.lt_trichotomy t1 t2 with hl | hl | hl
          · rw [if_pos hl] at hc
            have d1 : decide (t1 < t2) = true := decide_eq_true hl
            cases neg2
            · simp only [Bool.false_eq_true, if_false] at hsn
              subst hsn
              subst hc
              go_region_held3 (fun w' => (w'.cell? ⟨w.heap.size, 0, none⟩ = some (.bool false) ∧ w'.cell? ⟨w.heap.size, 1, none⟩ = some (.slice au nu ku) ∧ w'.cell? ⟨w.heap.size, 2, none⟩ = some (.int .i64 E)) ∧ w'.cell? ⟨w.heap.size + 1, 0, none⟩ = some (.bool false) ∧ w'.cell? ⟨w.heap.size + 1, 1, none⟩ = some (.slice av nv kv) ∧ w'.cell? ⟨w.heap.size + 1, 2, none⟩ = some (.int .i64 E2)) (first | with_reducible exact ⟨⟨cP0_5, cP1_5, cP2_5⟩, cQ0_5, cQ1_5, cQ2_5⟩ | with_reducible exact ⟨⟨cP0_6, cP1_6, cP2_6⟩, cQ0_6, cQ1_6, cQ2_6⟩ | with_reducible exact ⟨⟨cP0_7, cP1_7, cP2_7⟩, cQ0_7, cQ1_7, cQ2_7⟩)
              (first
                | (go_at_call 24; (with_reducible refine (HT1.out _ _ x5).mono ?_); rintro e w6 ⟨rfl, hb6⟩; have B6 := B5.trans (hb6.mono B5.size); have x6 := x5.below hb6; have y6 := y5.below hb6; have P6 := P5.below hb6; have Q6 := Q5.below hb6; clear x5 y5 P5 Q5; obtain ⟨cP0_6, cP1_6, cP2_6, fP0_6, fP1_6, fP2_6, sP_6⟩ := P6.open3; obtain ⟨cQ0_6, cQ1_6, cQ2_6, fQ0_6, fQ1_6, fQ2_6, sQ_6⟩ := Q6.open3)
                | (go_at_call 24; (with_reducible refine (HT2.out _ _ y6).mono ?_); rintro e w7 ⟨rfl, hb7⟩; have B7 := B6.trans (hb7.mono B6.size); have x7 := x6.below hb7; have y7 := y6.below hb7; have P7 := P6.below hb7; have Q7 := Q6.below hb7; clear x6 y6 P6 Q6; clear cP0_6 cP1_6 cP2_6 fP0_6 fP1_6 fP2_6 sP_6; obtain ⟨cP0_7, cP1_7, cP2_7, fP0_7, fP1_7, fP2_7, sP_7⟩ := P7.open3; clear cQ0_6 cQ1_6 cQ2_6 fQ0_6 fQ1_6 fQ2_6 sQ_6; obtain ⟨cQ0_7, cQ1_7, cQ2_7, fQ0_7, fQ1_7, fQ2_7, sQ_7⟩ := Q7.open3)
                | fail)
              all_goals
                go_wp2_with fail
                go_ret
                exact ⟨rfl, by assumption⟩
            · simp only [if_true] at hsn
              subst hsn
              subst hc
              go_region_held3 (fun w' => (w'.cell? ⟨w.heap.size, 0, none⟩ = some (.bool true) ∧ w'.cell? ⟨w.heap.size, 1, none⟩ = some (.slice au nu ku) ∧ w'.cell? ⟨w.heap.size, 2, none⟩ = some (.int .i64 E)) ∧ w'.cell? ⟨w.heap.size + 1, 0, none⟩ = some (.bool true) ∧ w'.cell? ⟨w.heap.size + 1, 1, none⟩ = some (.slice av nv kv) ∧ w'.cell? ⟨w.heap.size + 1, 2, none⟩ = some (.int .i64 E2)) (first | with_reducible exact ⟨⟨cP0_5, cP1_5, cP2_5⟩, cQ0_5, cQ1_5, cQ2_5⟩ | with_reducible exact ⟨⟨cP0_6, cP1_6, cP2_6⟩, cQ0_6, cQ1_6, cQ2_6⟩ | with_reducible exact ⟨⟨cP0_7, cP1_7, cP2_7⟩, cQ0_7, cQ1_7, cQ2_7⟩)
              (first
                | (go_at_call 24; (with_reducible refine (HT1.out _ _ x5).mono ?_); rintro e w6 ⟨rfl, hb6⟩; have B6 := B5.trans (hb6.mono B5.size); have x6 := x5.below hb6; have y6 := y5.below hb6; have P6 := P5.below hb6; have Q6 := Q5.below hb6; clear x5 y5 P5 Q5; obtain ⟨cP0_6, cP1_6, cP2_6, fP0_6, fP1_6, fP2_6, sP_6⟩ := P6.open3; obtain ⟨cQ0_6, cQ1_6, cQ2_6, fQ0_6, fQ1_6, fQ2_6, sQ_6⟩ := Q6.open3)
                | (go_at_call 24; (with_reducible refine (HT2.out _ _ y6).mono ?_); rintro e w7 ⟨rfl, hb7⟩; have B7 := B6.trans (hb7.mono B6.size); have x7 := x6.below hb7; have y7 := y6.below hb7; have P7 := P6.below hb7; have Q7 := Q6.below hb7; clear x6 y6 P6 Q6; clear cP0_6 cP1_6 cP2_6 fP0_6 fP1_6 fP2_6 sP_6; obtain ⟨cP0_7, cP1_7, cP2_7, fP0_7, fP1_7, fP2_7, sP_7⟩ := P7.open3; clear cQ0_6 cQ1_6 cQ2_6 fQ0_6 fQ1_6 fQ2_6 sQ_6; obtain ⟨cQ0_7, cQ1_7, cQ2_7, fQ0_7, fQ1_7, fQ2_7, sQ_7⟩ := Q7.open3)
                | fail)
              all_goals
                go_wp2_with fail
                go_ret
                exact ⟨rfl, by assumption⟩
          · exact absurd hl htt
          · rw [if_neg (by omega), if_pos hl] at hc
            have d1 : decide (t1 < t2) = false := decide_eq_false (by omega)
            cases neg2
            · simp only [Bool.false_eq_true, if_false] at hsn
              subst hsn
              subst hc
              go_region_held3 (fun w' => (w'.cell? ⟨w.heap.size, 0, none⟩ = some (.bool false) ∧ w'.cell? ⟨w.heap.size, 1, none⟩ = some (.slice au nu ku) ∧ w'.cell? ⟨w.heap.size, 2, none⟩ = some (.int .i64 E)) ∧ w'.cell? ⟨w.heap.size + 1, 0, none⟩ = some (.bool false) ∧ w'.cell? ⟨w.heap.size + 1, 1, none⟩ = some (.slice av nv kv) ∧ w'.cell? ⟨w.heap.size + 1, 2, none⟩ = some (.int .i64 E2)) (first | with_reducible exact ⟨⟨cP0_5, cP1_5, cP2_5⟩, cQ0_5, cQ1_5, cQ2_5⟩ | with_reducible exact ⟨⟨cP0_6, cP1_6, cP2_6⟩, cQ0_6, cQ1_6, cQ2_6⟩ | with_reducible exact ⟨⟨cP0_7, cP1_7, cP2_7⟩, cQ0_7, cQ1_7, cQ2_7⟩)
              (first
                | (go_at_call 24; (with_reducible refine (HT1.out _ _ x5).mono ?_); rintro e w6 ⟨rfl, hb6⟩; have B6 := B5.trans (hb6.mono B5.size); have x6 := x5.below hb6; have y6 := y5.below hb6; have P6 := P5.below hb6; have Q6 := Q5.below hb6; clear x5 y5 P5 Q5; obtain ⟨cP0_6, cP1_6, cP2_6, fP0_6, fP1_6, fP2_6, sP_6⟩ := P6.open3; obtain ⟨cQ0_6, cQ1_6, cQ2_6, fQ0_6, fQ1_6, fQ2_6, sQ_6⟩ := Q6.open3)
                | (go_at_call 24; (with_reducible refine (HT2.out _ _ y6).mono ?_); rintro e w7 ⟨rfl, hb7⟩; have B7 := B6.trans (hb7.mono B6.size); have x7 := x6.below hb7; have y7 := y6.below hb7; have P7 := P6.below hb7; have Q7 := Q6.below hb7; clear x6 y6 P6 Q6; clear cP0_6 cP1_6 cP2_6 fP0_6 fP1_6 fP2_6 sP_6; obtain ⟨cP0_7, cP1_7, cP2_7, fP0_7, fP1_7, fP2_7, sP_7⟩ := P7.open3; clear cQ0_6 cQ1_6 cQ2_6 fQ0_6 fQ1_6 fQ2_6 sQ_6; obtain ⟨cQ0_7, cQ1_7, cQ2_7, fQ0_7, fQ1_7, fQ2_7, sQ_7⟩ := Q7.open3)
                | fail)
              all_goals
                go_wp2_with fail
                go_ret
                exact ⟨rfl, by assumption⟩
            · simp only [if_true] at hsn
              subst hsn
              subst hc
              go_region_held3 (fun w' => (w'.cell? ⟨w.heap.size, 0, none⟩ = some (.bool true) ∧ w'.cell? ⟨w.heap.size, 1, none⟩ = some (.slice au nu ku) ∧ w'.cell? ⟨w.heap.size, 2, none⟩ = some (.int .i64 E)) ∧ w'.cell? ⟨w.heap.size + 1, 0, none⟩ = some (.bool true) ∧ w'.cell? ⟨w.heap.size + 1, 1, none⟩ = some (.slice av nv kv) ∧ w'.cell? ⟨w.heap.size + 1, 2, none⟩ = some (.int .i64 E2)) (first | with_reducible exact ⟨⟨cP0_5, cP1_5, cP2_5⟩, cQ0_5, cQ1_5, cQ2_5⟩ | with_reducible exact ⟨⟨cP0_6, cP1_6, cP2_6⟩, cQ0_6, cQ1_6, cQ2_6⟩ | with_reducible exact ⟨⟨cP0_7, cP1_7, cP2_7⟩, cQ0_7, cQ1_7, cQ2_7⟩)
              (first
                | (go_at_call 24; (with_reducible refine (HT1.out _ _ x5).mono ?_); rintro e w6 ⟨rfl, hb6⟩; have B6 := B5.trans (hb6.mono B5.size); have x6 := x5.below hb6; have y6 := y5.below hb6; have P6 := P5.below hb6; have Q6 := Q5.below hb6; clear x5 y5 P5 Q5; obtain ⟨cP0_6, cP1_6, cP2_6, fP0_6, fP1_6, fP2_6, sP_6⟩ := P6.open3; obtain ⟨cQ0_6, cQ1_6, cQ2_6, fQ0_6, fQ1_6, fQ2_6, sQ_6⟩ := Q6.open3)
                | (go_at_call 24; (with_reducible refine (HT2.out _ _ y6).mono ?_); rintro e w7 ⟨rfl, hb7⟩; have B7 := B6.trans (hb7.mono B6.size); have x7 := x6.below hb7; have y7 := y6.below hb7; have P7 := P6.below hb7; have Q7 := Q6.below hb7; clear x6 y6 P6 Q6; clear cP0_6 cP1_6 cP2_6 fP0_6 fP1_6 fP2_6 sP_6; obtain ⟨cP0_7, cP1_7, cP2_7, fP0_7, fP1_7, fP2_7, sP_7⟩ := P7.open3; clear cQ0_6 cQ1_6 cQ2_6 fQ0_6 fQ1_6 fQ2_6 sQ_6; obtain ⟨cQ0_7, cQ1_7, cQ2_7, fQ0_7, fQ1_7, fQ2_7, sQ_7⟩ := Q7.open3)
                | fail)
              all_goals
                go_wp2_with fail
                go_ret
                exact ⟨rfl, by assumption⟩
end Go.Proofs.YtflkemcoomgoiaaDoor
