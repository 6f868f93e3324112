/- planimeterref11.Power by its contract. Conditions: the number is near (as planimeterref11.Near says). -/
import Derived.Test.YtabdmnjdmnnejaaDoorTl2
import Derived.Deep.RegionHeld3
namespace Go.Proofs.YtabdmnjdmnnejaaDoor
set_option maxRecDepth 100000
open Go.RowKit Go.ChangeShapes Go.WideShapes
set_option linter.unusedVariables false

theorem RC10_mid {w : World} {u u2 : Value} {M B k s : Nat} {E m EB : Int} (hn : nearX M E m k) (h2 : s < 9218868437227405312) (e1 : 2 * sigF s + 1 = B) (e2 : unitE s - 1 = EB) (h : RdD w u (digs DD M)) (h' : RdD w u2 (digs DD B)) :
    Calls Tryd.prog 39 #[.agg #[.bool false, u, .int .i64 E], .int .i64 m, .agg #[.bool false, u2, .int .i64 EB], .int .i64 k] w (fun r w' => r = .returned (.int .i64 (cmOf M E m k s)) ∧ Below w.heap.size w w') := by
  obtain ⟨n1, n2, n3, n4, n5, n6, n7⟩ := hn
  have hF := sigF_lt s
  have hb : bitN B ≤ 54 := bitN_le.2 (by rw [← e1]; omega)
  have hu1 := unitE_ge s; have hu2 := unitE_lt h2
  have := RC10_n h h' n1 (show B ≠ 0 by omega) n2 n4 n5 n6 n7 hb (show EB.natAbs ≤ 1100 by omega)
  unfold cmOf
  rw [e1, e2]
  exact this

/-- What is told, as an ending. -/
def P11R (w : World) (cz cm : Nat → Int) (e : Ending) (w' : World) : Prop := ∃ (is : Bool) (P : Nat) (F : Int) (low : Nat) (v : Value), e = .returned (.tuple #[.agg #[.bool false, v, .int .i64 F], .bool is]) ∧ BelowR cz low ∧ RefP cz cm low is P F ∧ RdD w' v (digs DD P) ∧ Below w.heap.size w w'

set_option maxHeartbeats 4000000 in
theorem RPow11_n {w : World} {u : Value} {M k : Nat} {E m : Int} (hn : nearX M E m k) (h : RdD w u (digs DD M)) :
    Calls Tryd.prog 14 #[.agg #[.bool false, u, .int .i64 E], .int .i64 m, .int .i64 k] w (P11R w (czOf M E m k) (cmOf M E m k)) := by
  obtain ⟨au, nu, ku, rfl⟩ := h.slice
  have HB := Lib.hid (fun w v (h : RdD w v (digs DD M)) => RBelow_n hn h)
  have HZ := Lib.hid (fun w v u s B EB (h1 : 1 ≤ s) (h2 : s ≤ 9218868437227405312) (e : bareD ⟨false, sigF s, unitE s⟩ = ⟨false, B, EB⟩) (h : RdD w v (digs DD M)) (h' : RdD w u (digs DD B)) => RC10_sz hn h1 h2 e h h')
  have HM := Lib.hid (fun w v u s B EB (h2 : s < 9218868437227405312) (e1 : 2 * sigF s + 1 = B) (e2 : unitE s - 1 = EB) (h : RdD w v (digs DD M)) (h' : RdD w u (digs DD B)) => RC10_mid hn h2 e1 e2 h h')
  clear hn
  generalize czOf M E m k = cz at *
  generalize cmOf M E m k = cm at *
  have P := blk_a1 (w := w) (T := 30) (c := #[.bool false, .slice au nu ku, .int .i64 E]) (o := .cells #[.bool false, .slice none 0 0, .int .i64 0] 30 (0, 0))
  have R := blk_a2 (w := w) (T := 30) (o := .cells #[.bool false, .slice au nu ku, .int .i64 E] 30 (0, 0)) (c := #[.bool false, .slice none 0 0, .int .i64 0])
  have B0 : Below w.heap.size w ((w.alloc (.cells #[.bool false, .slice au nu ku, .int .i64 E] 30 (0, 0))).alloc (.cells #[.bool false, .slice none 0 0, .int .i64 0] 30 (0, 0))) := below_2
  have x0 := h.below B0
  clear h
  go_enter Tryd.func14, Tryd.ntmps14
  go_upto_region 1 with fail
  generalize (w.alloc (.cells #[.bool false, .slice au nu ku, .int .i64 E] 30 (0, 0))).alloc (.cells #[.bool false, .slice none 0 0, .int .i64 0] 30 (0, 0)) = w0 at *
  obtain ⟨cP0, cP1, cP2, fP0, fP1, fP2, sP⟩ := P.open3
  go_upto_region 2 with
    (first
      | (go_at_call 38; (with_reducible refine (HB.out _ _ x0).mono ?_); rintro e w1 ⟨low, rfl, hbl, hb1⟩; have B1 := B0.trans (hb1.mono B0.size); have x1 := x0.below hb1; have P1 := P.below hb1; have R1 := R.below hb1; clear x0 P R; obtain ⟨cP0_1, cP1_1, cP2_1, fP0_1, fP1_1, fP2_1, sP_1⟩ := P1.open3)
      | fail)
  have hbl := Lib.hid hbl
  have hlt := hbl.out.1
  clear cP0 cP1 cP2 fP0 fP1 fP2 sP cP0_1 cP1_1 cP2_1 fP0_1 fP1_1 fP2_1 sP_1
  by_cases ht : low = 9218868437227405312
  · subst ht
    generalize hq : bareD ⟨false, sigF 9218868437227405312, unitE 9218868437227405312⟩ = bd at *
    obtain ⟨n', Bs, EB⟩ := bd
    obtain ⟨rfl, rfl, rfl⟩ := bare_top hq
    have HC := Lib.hid (fun w v u => HZ.out w v u 9218868437227405312 1 1024 (by decide) (by decide) hq)
    have hq := Lib.hid hq
    obtain ⟨c, hc⟩ : ∃ c, cz 9218868437227405312 = c := ⟨_, rfl⟩
    rw [hc] at HC
    have hc := Lib.hid hc
    have Dw : Below w1.heap.size w1 w1.drew := below_drewN (Below.refl _ _) 1
    have Pd := P1.below Dw; have xd := x1.below Dw; have Rd := R1.below Dw; have Bd := B1.trans (Dw.mono B1.size)
    have zd := Lib.hid (cells33x Pd)
    clear P1 x1 R1 B1 HB HZ HM hlt
    go_upto_region 3 with fail
    go_cut [22] (fun t w' => t = .bool (c == 0) ∧ Below w1.drew.heap.size w1.drew w')
    case first =>
      have Bq := Below.refl w1.drew.heap.size w1.drew
      go_region_held3 (fun w' => w'.cell? ⟨w.heap.size, 0, none⟩ = some (.bool false) ∧ w'.cell? ⟨w.heap.size, 1, none⟩ = some (.slice au nu ku) ∧ w'.cell? ⟨w.heap.size, 2, none⟩ = some (.int .i64 E))
        (first | exact zd.out | exact z1.out | exact z2.out)
        (first
          | (go_at_call 40; (with_reducible refine (RLimit_n).mono ?_); rintro e y1 ⟨v1, rfl, l1, hz1⟩; obtain ⟨a1, k1, rfl, -⟩ := l1.view; have x1 := xd.below hz1; have P1 := Pd.below hz1; have B1 := Bq.trans (hz1.mono Bq.size); have z1 := Lib.hid (cells33x P1))
          | (go_at_call 39; (with_reducible refine (HC.out _ _ _ x1 l1).mono ?_); rintro e y2 ⟨rfl, hz2⟩; have P2 := P1.below hz2; have B2 := B1.trans (hz2.mono B1.size); have z2 := Lib.hid (cells33x P2))
          | fail)
      all_goals
        go_wp2_with fail
        go_meet
        exact ⟨rfl, by assumption⟩
    case rest =>
      obtain ⟨rfl, hb2⟩ := hcut
      generalize hwx : wc = w2 at *
      clear hwx
      have R2 := Rd.below hb2; have B2 := Bd.trans (hb2.mono Bd.size)
      clear Pd xd Rd Bd zd hb2 Dw
      obtain ⟨cR0, cR1, cR2, fR0, fR1, fR2, sR⟩ := R2.open3
      by_cases h0 : c = 0
      · have d0 : (c == 0) = true := by rw [h0]; rfl
        have hr : RefP cz cm 9218868437227405312 true 1 1024 := .inl ⟨rfl, by decide, by rw [hc.out]; exact h0, hq.out⟩
        have hr := Lib.hid hr
        clear h0
        go_wp2_with
        (first
          | (go_at_call 40; (with_reducible refine (RLimit_n).mono ?_); rintro e w3 ⟨vx3, rfl, x3, hb3⟩; have B3 := B2.trans (hb3.mono B2.size); have R3 := R2.below hb3; clear R2; obtain ⟨cR0_3, cR1_3, cR2_3, fR0_3, fR1_3, fR2_3, sR_3⟩ := R3.open3; obtain ⟨ax3, kx3, rfl, -⟩ := x3.view; try simp only [List.length_nil] at x3)
          | fail)
        obtain ⟨z0, z1, z2, -⟩ := (R3.set3 (.bool false) (.slice ax3 (digs DD 1).length kx3) (.int .i64 1024)).open3
        refine bodyPost_ret (v := .tuple #[.agg #[.bool false, .slice ax3 (digs DD 1).length kx3, .int .i64 1024], .bool true]) ?_ rfl ?_
        · simp [results, Tryd.results14, go_sem, z0, z1, z2]
        · exact ⟨_, _, _, _, _, rfl, hbl.out, hr.out, x3.set3 R3 dcells32 _ _ _, below_set3 B3 (by omega) _ _ _⟩
      · have d0 : (c == 0) = false := beq_eq_false_iff_ne.2 h0
        have hr : RefP cz cm 9218868437227405312 false 0 0 := .inr (.inr ⟨rfl, .inr (by rw [hc.out]; exact h0), fun h => absurd h (by decide), rfl, rfl⟩)
        have hr := Lib.hid hr
        clear h0
        go_wp2_with fail
        obtain ⟨z0, z1, z2, -⟩ := (R2.set3 (.bool false) (.slice none 0 0) (.int .i64 0)).open3
        refine bodyPost_ret (v := .tuple #[.agg #[.bool false, .slice none 0 0, .int .i64 0], .bool false]) ?_ rfl ?_
        · simp [results, Tryd.results14, go_sem, z0, z1, z2]
        · exact ⟨_, _, _, _, _, rfl, hbl.out, hr.out, by rw [digs_zero]; exact RdD.nil _, below_set3 B2 (by omega) _ _ _⟩
  · have d1 : ((low : Int) == 9218868437227405312) = false := beq_eq_false_iff_ne.2 (by omega)
    have hlt2 : low < 9218868437227405312 := by omega
    generalize hq : bareD ⟨false, sigF low, unitE low⟩ = bd at *
    obtain ⟨n', Bs, EB⟩ := bd
    obtain rfl : n' = false := by
      by_cases h0 : low = 0
      · subst h0
        have e0 : sigF 0 = 0 := by decide
        have := bareD_zero (d := ⟨false, sigF 0, unitE 0⟩) e0
        rw [hq] at this
        injection this
      · exact (bare_size (by omega) (by omega) hq).1
    have HW := Lib.hid (fun w => RWorth_n (w := w) hlt hq)
    have hq := Lib.hid hq
    go_upto_region 7 with
      (first
        | (go_at_call 41; (with_reducible refine (HW.out _).mono ?_); rintro e w2 ⟨vy2, rfl, y2, hb2⟩; have B2 := B1.trans (hb2.mono B1.size); have x2 := x1.below hb2; have P2 := P1.below hb2; have R2 := R1.below hb2; clear x1 P1 R1; obtain ⟨cP0_2, cP1_2, cP2_2, fP0_2, fP1_2, fP2_2, sP_2⟩ := P2.open3; obtain ⟨ay2, ky2, rfl, -⟩ := y2.view; try simp only [List.length_nil] at y2)
        | fail)
    have hA := below_alloc w2 (.cells #[.bool false, .slice ay2 (digs DD Bs).length ky2, .int .i64 EB] 30 (0, 0))
    have Q3 : Blk (w2.alloc (.cells #[.bool false, .slice ay2 (digs DD Bs).length ky2, .int .i64 EB] 30 (0, 0))) w2.heap.size #[.bool false, .slice ay2 (digs DD Bs).length ky2, .int .i64 EB] := blk_new
    have P3 := P2.below hA; have R3 := R2.below hA; have x3 := x2.below hA; have y3 := y2.below hA
    have B3 := B2.trans (hA.mono B2.size)
    clear hA cP0_2 cP1_2 cP2_2 fP0_2 fP1_2 fP2_2 sP_2 P2 R2 x2 y2 B2 hb2 HW
    generalize w2.alloc (.cells #[.bool false, .slice ay2 (digs DD Bs).length ky2, .int .i64 EB] 30 (0, 0)) = w3 at *
    generalize w2.heap.size = bq at *
    obtain ⟨tt, htt⟩ : ∃ t, (decide (0 < low) && decide (cz low = 0)) = t := ⟨_, rfl⟩
    go_cut [36] (fun t w' => t = .bool tt ∧ Below w3.heap.size w3 w')
    case first =>
      have B3' := Below.refl w3.heap.size w3
      by_cases h0 : low = 0
      · have g1 : decide (0 < (low : Int)) = false := decide_eq_false (by omega)
        have g2 : decide (0 < low) = false := decide_eq_false (by omega)
        obtain rfl : tt = false := by rw [← htt, g2, Bool.false_and]
        clear htt h0
        go_wp2_with fail
        go_meet
        exact ⟨rfl, B3'⟩
      · have g1 : decide (0 < (low : Int)) = true := decide_eq_true (by omega)
        have g2 : decide (0 < low) = true := decide_eq_true (by omega)
        have HC := Lib.hid (fun w v u => HZ.out w v u low Bs EB (by omega) hlt hq.out)
        obtain ⟨c, hc⟩ : ∃ c, cz low = c := ⟨_, rfl⟩
        rw [hc] at HC
        rw [g2, Bool.true_and, hc] at htt
        have hce : (c == 0) = tt := by rw [← htt]; rfl
        clear htt h0 hc HZ HM HB
        obtain ⟨cQ0, cQ1, cQ2, fQ0, fQ1, fQ2, sQ⟩ := Q3.open3
        obtain ⟨cP0, cP1, cP2, fP0, fP1, fP2, sP⟩ := P3.open3
        go_wp2_with
        (first
          | (go_at_call 39; (with_reducible refine (HC.out _ _ _ x3 y3).mono ?_); rintro e w4 ⟨rfl, hb4⟩; have B4 := B3'.trans (hb4.mono B3'.size); have x4 := x3.below hb4; have y4 := y3.below hb4; clear x3 y3)
          | fail)
        all_goals
          go_meet
          exact ⟨rfl, by assumption⟩
    case rest =>
      obtain ⟨rfl, hb3⟩ := hcut
      generalize hwx : wc = w4 at *
      clear hwx
      have P4 := P3.below hb3; have R4 := R3.below hb3; have Q4 := Q3.below hb3; have x4 := x3.below hb3; have y4 := y3.below hb3; have B4 := B3.trans (hb3.mono B3.size)
      clear P3 R3 Q3 x3 y3 B3 hb3 HZ HB
      cases tt
      · -- the middle
        have hz : low = 0 ∨ cz low ≠ 0 := by
          by_cases h0 : low = 0
          · exact .inl h0
          · refine .inr (fun h => ?_)
            rw [decide_eq_true (show 0 < low by omega), h] at htt
            exact absurd htt (by decide)
        obtain ⟨Fm, hF⟩ : ∃ F, 2 * sigF low + 1 = F := ⟨_, rfl⟩
        obtain ⟨U, hU⟩ : ∃ U, unitE low - 1 = U := ⟨_, rfl⟩
        have HMI := Lib.hid (fun w => RMiddle_n (w := w) hlt2 hF hU)
        have HC := Lib.hid (fun w v u => HM.out w v u low Fm U hlt2 hF hU)
        obtain ⟨c, hc⟩ : ∃ c, cm low = c := ⟨_, rfl⟩
        rw [hc] at HC
        have hc := Lib.hid hc; have hF := Lib.hid hF; have hU := Lib.hid hU; have hz := Lib.hid hz; have hlt2 := Lib.hid hlt2
        clear htt ht d1 hlt HM
        obtain ⟨cP0, cP1, cP2, fP0, fP1, fP2, sP⟩ := P4.open3
        go_upto_region 10 with
        (first
          | (go_at_call 42; (with_reducible refine (HMI.out _).mono ?_); rintro e w5 ⟨vz5, rfl, z5, hb5⟩; have B5 := B4.trans (hb5.mono B4.size); have x5 := x4.below hb5; have P5 := P4.below hb5; have R5 := R4.below hb5; clear x4 P4 R4; obtain ⟨cP0_5, cP1_5, cP2_5, fP0_5, fP1_5, fP2_5, sP_5⟩ := P5.open3; obtain ⟨az5, kz5, rfl, -⟩ := z5.view; try simp only [List.length_nil] at z5)
          | fail)
        have hA := below_alloc w5 (.cells #[.bool false, .slice az5 (digs DD Fm).length kz5, .int .i64 U] 30 (0, 0))
        have S6 : Blk (w5.alloc (.cells #[.bool false, .slice az5 (digs DD Fm).length kz5, .int .i64 U] 30 (0, 0))) w5.heap.size #[.bool false, .slice az5 (digs DD Fm).length kz5, .int .i64 U] := blk_new
        have P6 := P5.below hA; have R6 := R5.below hA; have x6 := x5.below hA; have z6 := z5.below hA
        have B6 := B5.trans (hA.mono B5.size)
        clear hA cP0 cP1 cP2 fP0 fP1 fP2 sP cP0_5 cP1_5 cP2_5 fP0_5 fP1_5 fP2_5 sP_5 P5 R5 x5 z5 B5 hb5 HMI Q4 y4
        generalize w5.alloc (.cells #[.bool false, .slice az5 (digs DD Fm).length kz5, .int .i64 U] 30 (0, 0)) = w6 at *
        generalize w5.heap.size = bs at *
        obtain ⟨cS0, cS1, cS2, fS0, fS1, fS2, sS⟩ := S6.open3
        obtain ⟨cP0, cP1, cP2, fP0, fP1, fP2, sP⟩ := P6.open3
        by_cases h0 : c = 0
        · have d0 : (c == 0) = true := by rw [h0]; rfl
          have hr : RefP cz cm low true Fm U := .inr (.inl ⟨rfl, hlt2.out, by rw [hc.out]; exact h0, hF.out.symm, hU.out.symm⟩)
          have hr := Lib.hid hr
          subst h0
          go_upto_region 11 with
          (first
            | (go_at_call 39; (with_reducible refine (HC.out _ _ _ x6 z6).mono ?_); rintro e w7 ⟨rfl, hb7⟩; have B7 := B6.trans (hb7.mono B6.size); have x7 := x6.below hb7; have z7 := z6.below hb7; have P7 := P6.below hb7; have S7 := S6.below hb7; have R7 := R6.below hb7; clear x6 z6 P6 S6 R6; obtain ⟨cP0_7, cP1_7, cP2_7, fP0_7, fP1_7, fP2_7, sP_7⟩ := P7.open3; obtain ⟨cS0_7, cS1_7, cS2_7, fS0_7, fS1_7, fS2_7, sS_7⟩ := S7.open3; obtain ⟨cR0_7, cR1_7, cR2_7, fR0_7, fR1_7, fR2_7, sR_7⟩ := R7.open3)
            | fail)
          go_wp2_with fail
          obtain ⟨z0, z1, z2, -⟩ := (R7.set3 (.bool false) (.slice az5 (digs DD Fm).length kz5) (.int .i64 U)).open3
          refine bodyPost_ret (v := .tuple #[.agg #[.bool false, .slice az5 (digs DD Fm).length kz5, .int .i64 U], .bool true]) ?_ rfl ?_
          · simp [results, Tryd.results14, go_sem, z0, z1, z2]
          · exact ⟨_, _, _, _, _, rfl, hbl.out, hr.out, z7.set3 R7 dcells32 _ _ _, below_set3 B7 (by omega) _ _ _⟩
        · have d0 : (c == 0) = false := beq_eq_false_iff_ne.2 h0
          have hr : RefP cz cm low false 0 0 := .inr (.inr ⟨rfl, hz.out, fun _ => by rw [hc.out]; exact h0, rfl, rfl⟩)
          have hr := Lib.hid hr
          clear h0
          go_wp2_with
          (first
            | (go_at_call 39; (with_reducible refine (HC.out _ _ _ x6 z6).mono ?_); rintro e w7 ⟨rfl, hb7⟩; have B7 := B6.trans (hb7.mono B6.size); have x7 := x6.below hb7; have z7 := z6.below hb7; have P7 := P6.below hb7; have S7 := S6.below hb7; have R7 := R6.below hb7; clear x6 z6 P6 S6 R6; obtain ⟨cP0_7, cP1_7, cP2_7, fP0_7, fP1_7, fP2_7, sP_7⟩ := P7.open3; obtain ⟨cS0_7, cS1_7, cS2_7, fS0_7, fS1_7, fS2_7, sS_7⟩ := S7.open3; obtain ⟨cR0_7, cR1_7, cR2_7, fR0_7, fR1_7, fR2_7, sR_7⟩ := R7.open3)
            | fail)
          obtain ⟨z0, z1, z2, -⟩ := (R7.set3 (.bool false) (.slice none 0 0) (.int .i64 0)).open3
          refine bodyPost_ret (v := .tuple #[.agg #[.bool false, .slice none 0 0, .int .i64 0], .bool false]) ?_ rfl ?_
          · simp [results, Tryd.results14, go_sem, z0, z1, z2]
          · exact ⟨_, _, _, _, _, rfl, hbl.out, hr.out, RdD.nil0 _, below_set3 B7 (by omega) _ _ _⟩
      · -- the size
        have hz : 0 < low ∧ cz low = 0 := by simpa using htt
        have hr : RefP cz cm low true Bs EB := .inl ⟨rfl, hz.1, hz.2, hq.out⟩
        have hr := Lib.hid hr
        clear htt hz HM d1 ht hlt hlt2
        obtain ⟨cQ0, cQ1, cQ2, fQ0, fQ1, fQ2, sQ⟩ := Q4.open3
        obtain ⟨cR0, cR1, cR2, fR0, fR1, fR2, sR⟩ := R4.open3
        go_wp2_with fail
        obtain ⟨z0, z1, z2, -⟩ := (R4.set3 (.bool false) (.slice ay2 (digs DD Bs).length ky2) (.int .i64 EB)).open3
        refine bodyPost_ret (v := .tuple #[.agg #[.bool false, .slice ay2 (digs DD Bs).length ky2, .int .i64 EB], .bool true]) ?_ rfl ?_
        · simp [results, Tryd.results14, go_sem, z0, z1, z2]
        · exact ⟨_, _, _, _, _, rfl, hbl.out, hr.out, y4.set3 R4 dcells32 _ _ _, below_set3 B4 (by omega) _ _ _⟩
end Go.Proofs.YtabdmnjdmnnejaaDoor
