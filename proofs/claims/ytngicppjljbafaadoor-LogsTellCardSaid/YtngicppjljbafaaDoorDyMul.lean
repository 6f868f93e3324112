/- dyad.Add, Minus, Mul by their results' values. Conditions: the numbers are of a middle size; math/bits' table stands in its variable. -/
import Derived.Test.YtngicppjljbafaaDoorDyC
import Derived.Test.YtngicppjljbafaaDoorValG
import Derived.Test.YtngicppjljbafaaDoorSerC
namespace Go.Proofs.YtngicppjljbafaaDoor
set_option maxRecDepth 100000
open Go.RowKit Go.ChangeShapes Go.WideShapes
set_option linter.unusedVariables false

theorem Add_v {w : World} {u u2 : Value} {n1 n2 : Bool} {m1 m2 : Nat} {e1 e2 k : Int} (h : Num w u m1) (h' : Num w u2 m2) (hT : Tab w) (ha : Mid k ⟨n1, m1, e1⟩) (hb : Mid k ⟨n2, m2, e2⟩) (hk : k ≤ 30000) (hk0 : 0 ≤ k) :
    Calls Tryd.prog 27 #[.agg #[.bool n1, u, .int .i64 e1], .agg #[.bool n2, u2, .int .i64 e2]] w (fun e w' => ∃ n m x v, e = .returned (.tuple #[.agg #[.bool n, v, .int .i64 x], .int .i64 0]) ∧ (qv ⟨n, m, x⟩ = qv ⟨n1, m1, e1⟩ + qv ⟨n2, m2, e2⟩ ∧ Mid (k + 1) ⟨n, m, x⟩ ∧ bareD ⟨n, m, x⟩ = ⟨n, m, x⟩) ∧ RdN w' v (digs BB m) ∧ Below w.heap.size w w') := by
  obtain ⟨⟨n, m, x⟩, q, v1, v2, v3, -⟩ := addQ_val ha hb hk hk0
  have a1 := ha.1; have a2 := ha.2.1; have b1 := hb.1; have b2 := hb.2.1
  dsimp only at a1 a2 b1 b2
  refine (Add_n h h' hT (by omega) (by omega) (by omega) (by omega) q).mono ?_
  rintro e w' ⟨v, rfl, r, hb⟩
  exact ⟨n, m, x, v, rfl, ⟨v1, v2, v3⟩, r, hb⟩
theorem qv_minus (n : Bool) (m : Nat) (e : Int) : qv ⟨!n, m, e⟩ = -qv ⟨n, m, e⟩ := by
  cases n
  · rfl
  · show (m : Rat) * pw e = - -((m : Rat) * pw e)
    grind
theorem bareD_zeroM {n n' : Bool} {M M' : Nat} {E E' : Int} (e : bareD ⟨n, M, E⟩ = ⟨n', M', E'⟩) (h : M' = 0) : n' = false ∧ E' = 0 := by
  have h0 : M = 0 := by
    have := bareD_m_zero ⟨n, M, E⟩
    rw [e] at this
    exact this.1 h
  rw [bareD_zero h0] at e
  injection e with e1 e2 e3
  exact ⟨e1.symm, e3.symm⟩
theorem bareD_oddM {n n' : Bool} {M M' : Nat} {E E' : Int} (e : bareD ⟨n, M, E⟩ = ⟨n', M', E'⟩) (h : M' ≠ 0) : M' % 2 = 1 := by
  have h0 : M ≠ 0 := fun h0 => by
    rw [bareD_zero h0] at e
    injection e with e1 e2 e3
    exact h e2.symm
  rw [bareD_pos h0] at e
  injection e with e1 e2 e3
  obtain ⟨m, hm⟩ := low2_eq h0
  rw [← e2]
  show M / 2 ^ low2 M % 2 = 1
  rw [odd_eq hm]; omega
set_option maxHeartbeats 1000000 in
theorem Minus_v {w : World} {v : Value} {neg : Bool} {M : Nat} {E k : Int} (h : Num w v M) (hT : Tab w) (hm : Mid k ⟨neg, M, E⟩) (hk : k ≤ 1000000) (hk0 : 0 ≤ k) :
    Calls Tryd.prog 32 #[.agg #[.bool neg, v, .int .i64 E]] w (fun e w' => ∃ n m x v, e = .returned (.agg #[.bool n, v, .int .i64 x]) ∧ (qv ⟨n, m, x⟩ = -qv ⟨neg, M, E⟩ ∧ Mid k ⟨n, m, x⟩ ∧ bareD ⟨n, m, x⟩ = ⟨n, m, x⟩) ∧ RdN w' v (digs BB m) ∧ Below w.heap.size w w') := by
  obtain ⟨a, n, c, rfl⟩ := h.slice
  obtain ⟨m1, m2, m3, hf, m5⟩ := hm.bare (by omega) hk0
  obtain ⟨⟨n', M', E'⟩, e⟩ : ∃ d, bareD ⟨neg, M, E⟩ = d := ⟨_, rfl⟩
  rw [e] at m1 hf m5
  have h1 := hm.1; have h2 := hm.2.1
  have h3 := m1.1; have h4 := m1.2.1; have h5 := m1.bits
  dsimp only at h1 h2 h3 h4 h5 hf
  have HB := Lib.hid (fun w v (h : Num w v M) (hT : Tab w) => bare_d h hT (by omega) (by omega) e)
  by_cases h0 : M' = 0
  · obtain ⟨rfl, rfl⟩ := bareD_zeroM e h0
    have z : qv ⟨neg, M, E⟩ = 0 := by rw [← m5]; exact qv_zero h0
    have fin : qv ⟨false, 0, 0⟩ = -qv ⟨neg, M, E⟩ := by rw [z, qv_zero rfl]; rfl
    have fin2 : Mid k ⟨false, 0, 0⟩ := by subst h0; exact m1
    subst h0
    have dz : (digs BB 0).length = 0 := by rw [digs_zero]; rfl
    clear e hf m1 m2 m3 m5 z
    go_enter Tryd.func32, Tryd.ntmps32
    go_wp2_with
    (first
      | (go_at_call 64; (with_reducible refine (HB.out _ _ (h.below below_2) (hT.below below_2)).mono ?_); rintro e w1 ⟨vx1, rfl, x1, hb1⟩; have B1 := below_2.trans (hb1.mono below_2.size); have m1 := ((h.below below_2)).below hb1; have T1 := ((hT.below below_2)).below hb1; have P1 := ((blk_a1)).below hb1; have R1 := ((blk_a2)).below hb1; obtain ⟨cP0_1, cP1_1, cP2_1, fP0_1, fP1_1, fP2_1, sP_1⟩ := P1.open3; obtain ⟨cR0_1, cR1_1, cR2_1, fR0_1, fR1_1, fR2_1, sR_1⟩ := R1.open3; obtain ⟨ux1, rfl, x1⟩ := x1; obtain ⟨ax1, kx1, rfl, -⟩ := x1.view)
      | fail)
    obtain ⟨z0, z1, z2, -⟩ := (Blk.next (o := .cells #[.bool false, .slice ax1 0 kx1, .int .i64 0] 32 (0, 0)) (R1.set3 (.bool false) (.slice none 0 0) (.int .i64 0))).open3
    refine bodyPost_ret (v := .agg #[.bool false, .slice none 0 0, .int .i64 0]) ?_ rfl ?_
    · simp [results, Tryd.results32, go_sem, z0, z1, z2]
    · exact ⟨false, 0, 0, _, rfl, ⟨fin, fin2, rfl⟩, RdN.nil0 _, bel_next (below_set3b B1 (by omega) _ _ _)⟩
  · have o := bareD_oddM e h0
    have fin : qv ⟨!n', M', E'⟩ = -qv ⟨neg, M, E⟩ := by rw [qv_minus, m5]
    have fin2 : Mid k ⟨!n', M', E'⟩ := m1
    have fin3 : bareD ⟨!n', M', E'⟩ = ⟨!n', M', E'⟩ := bareD_odd' o (by omega) (by omega)
    have hsn : digs BB M' ≠ [] := fun e => h0 ((digs_nil_iff BB_two _).1 e)
    have hsi : ((digs BB M').length : Int) ≠ 0 := by have := List.length_pos_iff.2 hsn; omega
    have BA := Lib.hid (fun w v (h : RdN w v (digs BB M')) (hT : Tab w) => Bare_ok (neg := !n') (E := E') (h.num (by omega)) hT (by omega) (by omega) fin3 hf)
    clear e hf m1 m2 m3 m5 o hsn h0
    go_enter Tryd.func32, Tryd.ntmps32
    go_wp2_with
    (first
      | (go_at_call 64; (with_reducible refine (HB.out _ _ (h.below below_2) (hT.below below_2)).mono ?_); rintro e w1 ⟨vx1, rfl, x1, hb1⟩; have B1 := below_2.trans (hb1.mono below_2.size); have m1 := ((h.below below_2)).below hb1; have T1 := ((hT.below below_2)).below hb1; have P1 := ((blk_a1)).below hb1; have R1 := ((blk_a2)).below hb1; obtain ⟨cP0_1, cP1_1, cP2_1, fP0_1, fP1_1, fP2_1, sP_1⟩ := P1.open3; obtain ⟨cR0_1, cR1_1, cR2_1, fR0_1, fR1_1, fR2_1, sR_1⟩ := R1.open3; obtain ⟨ux1, rfl, x1⟩ := x1; obtain ⟨ax1, kx1, rfl, -⟩ := x1.view)
      | (go_at_call 38; (with_reducible refine (BA.out _ _ (x1.below (below_alloc _ _)) (T1.below (below_alloc _ _))).mono ?_); rintro e w2 ⟨vy2, rfl, y2, hb2⟩; have hb2' := (below_a hb2); have B2 := B1.trans (hb2'.mono B1.size); have m2 := m1.below hb2'; have T2 := T1.below hb2'; have P2 := P1.below hb2'; have R2 := R1.below hb2'; have x2 := x1.below hb2'; clear m1 T1 P1 R1 x1; have Q2 := blk_new.below hb2; clear cP0_1 cP1_1 cP2_1 fP0_1 fP1_1 fP2_1 sP_1; obtain ⟨cP0_2, cP1_2, cP2_2, fP0_2, fP1_2, fP2_2, sP_2⟩ := P2.open3; clear cR0_1 cR1_1 cR2_1 fR0_1 fR1_1 fR2_1 sR_1; obtain ⟨cR0_2, cR1_2, cR2_2, fR0_2, fR1_2, fR2_2, sR_2⟩ := R2.open3; obtain ⟨cQ0_2, cQ1_2, cQ2_2, fQ0_2, fQ1_2, fQ2_2, sQ_2⟩ := Q2.open3; obtain ⟨ay2, ky2, rfl, -⟩ := y2.view; try simp only [List.length_nil] at y2)
      | fail)
    have q := (Blk.next (o := .cells #[.bool (!n'), .slice ay2 (digs BB M').length ky2, .int .i64 E'] 32 (0, 0)) (R2.set3 (.bool (!n')) (.slice ax1 (digs BB M').length kx1) (.int .i64 E'))).open3
    refine bodyPost_ret (v := .agg #[.bool (!n'), .slice ax1 (digs BB M').length kx1, .int .i64 E']) ?_ rfl ?_
    · simp [results, Tryd.results32, go_sem, q.1, q.2.1, q.2.2.1]
    · exact ⟨!n', M', E', _, rfl, ⟨fin, fin2, fin3⟩, (x2.set3 R2 dcells _ _ _).below (below_alloc _ _), bel_next (below_set3b B2 (by omega) _ _ _)⟩

theorem qv_mul (n1 n2 : Bool) (m1 m2 : Nat) (e1 e2 : Int) : qv ⟨n1 != n2, m1 * m2, e1 + e2⟩ = qv ⟨n1, m1, e1⟩ * qv ⟨n2, m2, e2⟩ := by
  unfold qv
  rw [Rat.natCast_mul, pw_add]
  generalize pw e1 = a
  generalize pw e2 = b
  cases n1 <;> cases n2 <;> simp <;> grind
theorem Mid.mul {k : Int} {n1 n2 n : Bool} {m1 m2 : Nat} {e1 e2 : Int} (ha : Mid k ⟨n1, m1, e1⟩) (hb : Mid k ⟨n2, m2, e2⟩) : Mid (k + k) ⟨n, m1 * m2, e1 + e2⟩ := by
  obtain ⟨a1, a2, a3⟩ := ha
  obtain ⟨b1, b2, b3⟩ := hb
  have h := bitN_mul_le m1 m2
  dsimp only at *
  refine ⟨?_, ?_, ?_⟩
  · show -(k + k) ≤ e1 + e2; omega
  · show e1 + e2 ≤ k + k; omega
  · show (bitN (m1 * m2) : Int) + (e1 + e2) ≤ k + k; omega
set_option maxHeartbeats 2000000 in
theorem Mul_v {w : World} {u u2 : Value} {n1 n2 : Bool} {m1 m2 : Nat} {e1 e2 k : Int} (h : Num w u m1) (h' : Num w u2 m2) (hT : Tab w) (ha : Mid k ⟨n1, m1, e1⟩) (hb : Mid k ⟨n2, m2, e2⟩) (hk : k ≤ 16000) (hk0 : 0 ≤ k) :
    Calls Tryd.prog 26 #[.agg #[.bool n1, u, .int .i64 e1], .agg #[.bool n2, u2, .int .i64 e2]] w (fun e w' => ∃ n m x v, e = .returned (.tuple #[.agg #[.bool n, v, .int .i64 x], .int .i64 0]) ∧ (qv ⟨n, m, x⟩ = qv ⟨n1, m1, e1⟩ * qv ⟨n2, m2, e2⟩ ∧ Mid (k + k) ⟨n, m, x⟩ ∧ bareD ⟨n, m, x⟩ = ⟨n, m, x⟩) ∧ RdN w' v (digs BB m) ∧ Below w.heap.size w w') := by
  obtain ⟨a, n, c, rfl⟩ := h.slice
  obtain ⟨a', n', c', rfl⟩ := h'.slice
  obtain ⟨A1, -, -, A4, A5⟩ := ha.bare (by omega) hk0
  obtain ⟨B1, -, -, B4, B5⟩ := hb.bare (by omega) hk0
  obtain ⟨⟨p1, q1, x1⟩, ea⟩ : ∃ d, bareD ⟨n1, m1, e1⟩ = d := ⟨_, rfl⟩
  obtain ⟨⟨p2, q2, x2⟩, eb⟩ : ∃ d, bareD ⟨n2, m2, e2⟩ = d := ⟨_, rfl⟩
  rw [ea] at A1 A4 A5
  rw [eb] at B1 B4 B5
  have hM : Mid (k + k) ⟨p1 != p2, q1 * q2, x1 + x2⟩ := A1.mul B1
  obtain ⟨C1, -, -, C4, C5⟩ := hM.bare (by omega) (by omega)
  have C6 := bareD_bare ⟨p1 != p2, q1 * q2, x1 + x2⟩ (by have := C1.1; omega) (by have := C1.2.1; omega)
  obtain ⟨⟨r, m, x⟩, ec⟩ : ∃ d, bareD ⟨p1 != p2, q1 * q2, x1 + x2⟩ = d := ⟨_, rfl⟩
  rw [ec] at C1 C4 C5 C6
  have fin : qv ⟨r, m, x⟩ = qv ⟨n1, m1, e1⟩ * qv ⟨n2, m2, e2⟩ := by rw [C5, qv_mul, A5, B5]
  have g1 := A1.bits; have g2 := B1.bits; have g3 := ha.1; have g4 := ha.2.1; have g5 := hb.1; have g6 := hb.2.1
  have g7 := A1.1; have g8 := A1.2.1; have g9 := B1.1; have g10 := B1.2.1
  dsimp only at g1 g2 g3 g4 g5 g6 g7 g8 g9 g10 A4 B4 C4
  have HBA := Lib.hid (fun w v (h : Num w v m1) (hT : Tab w) => Bare_ok h hT (by omega) (by omega) ea A4)
  have HBB := Lib.hid (fun w v (h : Num w v m2) (hT : Tab w) => Bare_ok h hT (by omega) (by omega) eb B4)
  obtain ⟨f, hf⟩ : ∃ f, x1 + x2 = f := ⟨_, rfl⟩
  obtain ⟨pr, hpr⟩ : ∃ z, q1 * q2 = z := ⟨_, rfl⟩
  have EP := Lib.hid hpr
  have spr : bitN pr ≤ 70000 := by rw [← hpr]; exact Nat.le_trans (bitN_mul_le _ _) (by omega)
  obtain ⟨pn, hpn⟩ : ∃ b, (p1 != p2) = b := ⟨_, rfl⟩
  rw [hf, hpr, hpn] at ec
  have hb' : (!(p1 == p2)) = pn := hpn
  have wf : IntKind.i64.wrap (x1 + x2) = f := by rw [IntKind.wrap_i64]; omega
  have HMK := Lib.hid (fun w v (h : RdN w v (digs BB pr)) (hT : Tab w) => Make_ok (neg := pn) (h.num (by omega)) hT (by omega) (by omega) ec C4)
  have hg0 := hT.lt
  clear hpn ea eb ec A1 A4 A5 B1 B4 B5 hM C4 C5 hf hpr ha hb g3 g4 g5 g6 g7 g8 g9 g10
  go_enter Tryd.func26, Tryd.ntmps26
  go_upto_region 2 with
  (first
    | (go_at_call 38; (with_reducible refine (HBA.out _ _ (h.below below_3) (hT.below below_3)).mono ?_); rintro e w1 ⟨vi1, rfl, i1, hb1⟩; have B1 := below_3.trans (hb1.mono below_3.size); have y1 := ((h.below below_3)).below hb1; have z1 := ((h'.below below_3)).below hb1; have T1 := ((hT.below below_3)).below hb1; have P1 := ((blk3_1)).below hb1; have Q1 := ((blk3_2)).below hb1; have R1 := ((blk3_3)).below hb1; obtain ⟨cP0_1, cP1_1, cP2_1, fP0_1, fP1_1, fP2_1, sP_1⟩ := P1.open3; obtain ⟨cQ0_1, cQ1_1, cQ2_1, fQ0_1, fQ1_1, fQ2_1, sQ_1⟩ := Q1.open3; obtain ⟨cR0_1, cR1_1, cR2_1, fR0_1, fR1_1, fR2_1, sR_1⟩ := R1.open3; obtain ⟨ai1, ki1, rfl, -⟩ := i1.view; try simp only [List.length_nil] at i1)
    | fail)
  have P2 := P1.set3 (.bool p1) (.slice ai1 (digs BB q1).length ki1) (.int .i64 x1)
  have Q2 := Q1.other3 (show w.heap.size + 1 ≠ w.heap.size by omega) (.bool p1) (.slice ai1 (digs BB q1).length ki1) (.int .i64 x1)
  have R2 := R1.other3 (show w.heap.size + 1 + 1 ≠ w.heap.size by omega) (.bool p1) (.slice ai1 (digs BB q1).length ki1) (.int .i64 x1)
  have i2 := i1.set3 P1 dcells (.bool p1) (.slice ai1 (digs BB q1).length ki1) (.int .i64 x1)
  have z2 := z1.set3 P1 dcells (.bool p1) (.slice ai1 (digs BB q1).length ki1) (.int .i64 x1)
  have T2 := T1.set3 (show 0 ≠ w.heap.size by omega) (.bool p1) (.slice ai1 (digs BB q1).length ki1) (.int .i64 x1)
  have B2 := below_set3 B1 (Nat.le_refl _) (.bool p1) (.slice ai1 (digs BB q1).length ki1) (.int .i64 x1)
  clear P1 Q1 R1 i1 y1 z1 T1 B1 cP0_1 cP1_1 cP2_1 fP0_1 fP1_1 fP2_1 sP_1 cQ0_1 cQ1_1 cQ2_1 fQ0_1 fQ1_1 fQ2_1 sQ_1 cR0_1 cR1_1 cR2_1 fR0_1 fR1_1 fR2_1 sR_1 hb1
  generalize ((w1.setCell ⟨w.heap.size, 0, none⟩ (.bool p1)).setCell ⟨w.heap.size, 1, none⟩ (.slice ai1 (digs BB q1).length ki1)).setCell ⟨w.heap.size, 2, none⟩ (.int .i64 x1) = w2 at *
  obtain ⟨cP0_1, cP1_1, cP2_1, fP0_1, fP1_1, fP2_1, sP_1⟩ := P2.open3
  obtain ⟨cQ0_1, cQ1_1, cQ2_1, fQ0_1, fQ1_1, fQ2_1, sQ_1⟩ := Q2.open3
  go_upto_region 5 with
  (first
    | (go_at_call 38; (with_reducible refine (HBB.out _ _ z2 T2).mono ?_); rintro e w11 ⟨vj11, rfl, j11, hb11⟩; have B11 := B2.trans (hb11.mono B2.size); have i11 := i2.below hb11; have z11 := z2.below hb11; have T11 := T2.below hb11; have P11 := P2.below hb11; have Q11 := Q2.below hb11; have R11 := R2.below hb11; clear i2 z2 T2 P2 Q2 R2; obtain ⟨cP0_11, cP1_11, cP2_11, fP0_11, fP1_11, fP2_11, sP_11⟩ := P11.open3; obtain ⟨cQ0_11, cQ1_11, cQ2_11, fQ0_11, fQ1_11, fQ2_11, sQ_11⟩ := Q11.open3; obtain ⟨cR0_11, cR1_11, cR2_11, fR0_11, fR1_11, fR2_11, sR_11⟩ := R11.open3; obtain ⟨aj11, kj11, rfl, -⟩ := j11.view; try simp only [List.length_nil] at j11)
    | fail)
  have Q3 := Q11.set3 (.bool p2) (.slice aj11 (digs BB q2).length kj11) (.int .i64 x2)
  have P3 := P11.other3 (show w.heap.size ≠ w.heap.size + 1 by omega) (.bool p2) (.slice aj11 (digs BB q2).length kj11) (.int .i64 x2)
  have R3 := R11.other3 (show w.heap.size + 1 + 1 ≠ w.heap.size + 1 by omega) (.bool p2) (.slice aj11 (digs BB q2).length kj11) (.int .i64 x2)
  have i3 := i11.set3 Q11 dcells (.bool p2) (.slice aj11 (digs BB q2).length kj11) (.int .i64 x2)
  have j3 := j11.set3 Q11 dcells (.bool p2) (.slice aj11 (digs BB q2).length kj11) (.int .i64 x2)
  have T3 := T11.set3 (show 0 ≠ w.heap.size + 1 by omega) (.bool p2) (.slice aj11 (digs BB q2).length kj11) (.int .i64 x2)
  have B3 := below_set3b B11 (show w.heap.size ≤ w.heap.size + 1 by omega) (.bool p2) (.slice aj11 (digs BB q2).length kj11) (.int .i64 x2)
  clear P11 Q11 R11 i11 j11 z11 T11 B11 cP0_11 cP1_11 cP2_11 fP0_11 fP1_11 fP2_11 sP_11 cQ0_11 cQ1_11 cQ2_11 fQ0_11 fQ1_11 fQ2_11 sQ_11 cR0_11 cR1_11 cR2_11 fR0_11 fR1_11 fR2_11 sR_11 hb11 cP0_1 cP1_1 cP2_1 fP0_1 fP1_1 fP2_1 sP_1 cQ0_1 cQ1_1 cQ2_1 fQ0_1 fQ1_1 fQ2_1 sQ_1
  generalize ((w11.setCell ⟨w.heap.size + 1, 0, none⟩ (.bool p2)).setCell ⟨w.heap.size + 1, 1, none⟩ (.slice aj11 (digs BB q2).length kj11)).setCell ⟨w.heap.size + 1, 2, none⟩ (.int .i64 x2) = w3 at *
  obtain ⟨cP0_1, cP1_1, cP2_1, fP0_1, fP1_1, fP2_1, sP_1⟩ := P3.open3
  obtain ⟨cQ0_1, cQ1_1, cQ2_1, fQ0_1, fQ1_1, fQ2_1, sQ_1⟩ := Q3.open3
  go_wp2_with
  (first
    | (go_at_call 59; (with_reducible refine (mul_n (i3.num (by omega)) (j3.num (by omega)) EP.out (by omega)).mono ?_); rintro e w21 ⟨vs21, rfl, s21, hb21⟩; have B21 := B3.trans (hb21.mono B3.size); have i21 := i3.below hb21; have j21 := j3.below hb21; have T21 := T3.below hb21; have P21 := P3.below hb21; have Q21 := Q3.below hb21; have R21 := R3.below hb21; clear i3 j3 T3 P3 Q3 R3; obtain ⟨cP0_21, cP1_21, cP2_21, fP0_21, fP1_21, fP2_21, sP_21⟩ := P21.open3; obtain ⟨cQ0_21, cQ1_21, cQ2_21, fQ0_21, fQ1_21, fQ2_21, sQ_21⟩ := Q21.open3; obtain ⟨cR0_21, cR1_21, cR2_21, fR0_21, fR1_21, fR2_21, sR_21⟩ := R21.open3)
    | (go_at_call 60; (with_reducible refine (HMK.out _ _ s21 T21).mono ?_); rintro e w22 ⟨vt22, rfl, t22, hb22⟩; have B22 := B21.trans (hb22.mono B21.size); have i22 := i21.below hb22; have j22 := j21.below hb22; have T22 := T21.below hb22; have P22 := P21.below hb22; have Q22 := Q21.below hb22; have R22 := R21.below hb22; have s22 := s21.below hb22; clear i21 j21 T21 P21 Q21 R21 s21; clear cP0_21 cP1_21 cP2_21 fP0_21 fP1_21 fP2_21 sP_21; obtain ⟨cP0_22, cP1_22, cP2_22, fP0_22, fP1_22, fP2_22, sP_22⟩ := P22.open3; clear cQ0_21 cQ1_21 cQ2_21 fQ0_21 fQ1_21 fQ2_21 sQ_21; obtain ⟨cQ0_22, cQ1_22, cQ2_22, fQ0_22, fQ1_22, fQ2_22, sQ_22⟩ := Q22.open3; clear cR0_21 cR1_21 cR2_21 fR0_21 fR1_21 fR2_21 sR_21; obtain ⟨cR0_22, cR1_22, cR2_22, fR0_22, fR1_22, fR2_22, sR_22⟩ := R22.open3; obtain ⟨at22, kt22, rfl, -⟩ := t22.view; try simp only [List.length_nil] at t22)
    | fail)
  obtain ⟨z0, z1, z2, -⟩ := (R22.set3 (.bool r) (.slice at22 (digs BB m).length kt22) (.int .i64 x)).open3
  refine bodyPost_ret (v := .tuple #[.agg #[.bool r, .slice at22 (digs BB m).length kt22, .int .i64 x], .int .i64 0]) ?_ rfl ?_
  · simp [results, Tryd.results26, go_sem, z0, z1, z2]
  · exact ⟨r, m, x, _, rfl, ⟨fin, C1, C6⟩, t22.set3 R22 dcells _ _ _, below_set3b B22 (by omega) _ _ _⟩
end Go.Proofs.YtngicppjljbafaaDoor
