/- dyad.Add, Minus, Mul by their results' values. Conditions: the numbers are of a middle size; math/bits' table stands in its variable. -/
import Derived.Test.YtflkemcoomgoiaaDoorDyC
import Derived.Test.YtflkemcoomgoiaaDoorValG
import Derived.Test.YtflkemcoomgoiaaDoorSerC
namespace Go.Proofs.YtflkemcoomgoiaaDoor
set_option maxRecDepth 100000
open Go.RowKit Go.ChangeShapes Go.WideShapes
set_option linter.unusedVariables false

theorem qv_minus (n : Bool) (m : Nat) (e : Int) : qv ⟨!n, m, e⟩ = -qv ⟨n, m, e⟩ := by
  cases n
  · rfl
  · show (m : Rat) * pw e = - -((m : Rat) * pw e)
    grind
theorem bareD_zeroM {n n' : Bool} {M M' : Nat} {E E' : Int} (e : bareD ⟨n, M, E⟩ = ⟨n', M', E'⟩) (h : M' = 0) : n' = false ∧ E' = 0 := by
  have h0 : M = 0 := by
    have := bareD_m_zero ⟨n, M, E⟩
    rw [e] at this
    exact this.1 h
  rw [bareD_zero h0] at e
  injection e with e1 e2 e3
  exact ⟨e1.symm, e3.symm⟩
set_option maxHeartbeats 1000000 in
theorem Minus_v {w : World} {v : Value} {neg : Bool} {M : Nat} {E k : Int} (h : Num w v M) (hT : Tab w) (hm : Mid k ⟨neg, M, E⟩) (hk : k ≤ 1000000) (hk0 : 0 ≤ k) :
    Calls Tryd.prog 27 #[.agg #[.bool neg, v, .int .i64 E]] w (fun e w' => ∃ n m x v, e = .returned (.agg #[.bool n, v, .int .i64 x]) ∧ (qv ⟨n, m, x⟩ = -qv ⟨neg, M, E⟩ ∧ Mid k ⟨n, m, x⟩ ∧ bareD ⟨n, m, x⟩ = ⟨n, m, x⟩) ∧ RdN w' v (digs BB m) ∧ Below w.heap.size w w') := by
  obtain ⟨a, n, c, rfl⟩ := h.slice
  obtain ⟨m1, m2, m3, hf, m5⟩ := hm.bare (by omega) hk0
  obtain ⟨⟨n', M', E'⟩, e⟩ : ∃ d, bareD ⟨neg, M, E⟩ = d := ⟨_, rfl⟩
  rw [e] at m1 hf m5
  have h1 := hm.1; have h2 := hm.2.1
  have h3 := m1.1; have h4 := m1.2.1; have h5 := m1.bits
  dsimp only at h1 h2 h3 h4 h5 hf
  have HB := Lib.hid (fun w v (h : Num w v M) (hT : Tab w) => bare_d h hT (by omega) (by omega) e)
  by_cases h0 : M' = 0
  · obtain ⟨rfl, rfl⟩ := bareD_zeroM e h0
    have z : qv ⟨neg, M, E⟩ = 0 := by rw [← m5]; exact qv_zero h0
    have fin : qv ⟨false, 0, 0⟩ = -qv ⟨neg, M, E⟩ := by rw [z, qv_zero rfl]; rfl
    have fin2 : Mid k ⟨false, 0, 0⟩ := by subst h0; exact m1
    subst h0
    have dz : (digs BB 0).length = 0 := by rw [digs_zero]; rfl
    clear e hf m1 m2 m3 m5 z
    go_enter Tryd.func27, Tryd.ntmps27
    go_wp2_with
    (first
      | (go_at_call 34; (with_reducible refine (HB.out _ _ (h.below below_2) (hT.below below_2)).mono ?_); rintro e w1 ⟨vx1, rfl, x1, hb1⟩; have B1 := below_2.trans (hb1.mono below_2.size); have m1 := ((h.below below_2)).below hb1; have T1 := ((hT.below below_2)).below hb1; have P1 := ((blk_a1)).below hb1; have R1 := ((blk_a2)).below hb1; obtain ⟨cP0_1, cP1_1, cP2_1, fP0_1, fP1_1, fP2_1, sP_1⟩ := P1.open3; obtain ⟨cR0_1, cR1_1, cR2_1, fR0_1, fR1_1, fR2_1, sR_1⟩ := R1.open3; obtain ⟨ux1, rfl, x1⟩ := x1; obtain ⟨ax1, kx1, rfl, -⟩ := x1.view)
      | fail)
    obtain ⟨z0, z1, z2, -⟩ := (Blk.next (o := .cells #[.bool false, .slice ax1 0 kx1, .int .i64 0] 36 (0, 0)) (R1.set3 (.bool false) (.slice none 0 0) (.int .i64 0))).open3
    refine bodyPost_ret (v := .agg #[.bool false, .slice none 0 0, .int .i64 0]) ?_ rfl ?_
    · simp [results, Tryd.results27, go_sem, z0, z1, z2]
    · exact ⟨false, 0, 0, _, rfl, ⟨fin, fin2, rfl⟩, RdN.nil0 _, bel_next (below_set3b B1 (by omega) _ _ _)⟩
  · have o := bareD_oddM e h0
    have fin : qv ⟨!n', M', E'⟩ = -qv ⟨neg, M, E⟩ := by rw [qv_minus, m5]
    have fin2 : Mid k ⟨!n', M', E'⟩ := m1
    have fin3 : bareD ⟨!n', M', E'⟩ = ⟨!n', M', E'⟩ := bareD_odd' o (by omega) (by omega)
    have hsn : digs BB M' ≠ [] := fun e => h0 ((digs_nil_iff BB_two _).1 e)
    have hsi : ((digs BB M').length : Int) ≠ 0 := by have := List.length_pos_iff.2 hsn; omega
    have BA := Lib.hid (fun w v (h : RdN w v (digs BB M')) (hT : Tab w) => Bare_ok (neg := !n') (E := E') (h.num (by omega)) hT (by omega) (by omega) fin3 hf)
    clear e hf m1 m2 m3 m5 o hsn h0
    go_enter Tryd.func27, Tryd.ntmps27
    go_wp2_with
    (first
      | (go_at_call 34; (with_reducible refine (HB.out _ _ (h.below below_2) (hT.below below_2)).mono ?_); rintro e w1 ⟨vx1, rfl, x1, hb1⟩; have B1 := below_2.trans (hb1.mono below_2.size); have m1 := ((h.below below_2)).below hb1; have T1 := ((hT.below below_2)).below hb1; have P1 := ((blk_a1)).below hb1; have R1 := ((blk_a2)).below hb1; obtain ⟨cP0_1, cP1_1, cP2_1, fP0_1, fP1_1, fP2_1, sP_1⟩ := P1.open3; obtain ⟨cR0_1, cR1_1, cR2_1, fR0_1, fR1_1, fR2_1, sR_1⟩ := R1.open3; obtain ⟨ux1, rfl, x1⟩ := x1; obtain ⟨ax1, kx1, rfl, -⟩ := x1.view)
      | (go_at_call 51; (with_reducible refine (BA.out _ _ (x1.below (below_alloc _ _)) (T1.below (below_alloc _ _))).mono ?_); rintro e w2 ⟨vy2, rfl, y2, hb2⟩; have hb2' := (below_a hb2); have B2 := B1.trans (hb2'.mono B1.size); have m2 := m1.below hb2'; have T2 := T1.below hb2'; have P2 := P1.below hb2'; have R2 := R1.below hb2'; have x2 := x1.below hb2'; clear m1 T1 P1 R1 x1; have Q2 := blk_new.below hb2; clear cP0_1 cP1_1 cP2_1 fP0_1 fP1_1 fP2_1 sP_1; obtain ⟨cP0_2, cP1_2, cP2_2, fP0_2, fP1_2, fP2_2, sP_2⟩ := P2.open3; clear cR0_1 cR1_1 cR2_1 fR0_1 fR1_1 fR2_1 sR_1; obtain ⟨cR0_2, cR1_2, cR2_2, fR0_2, fR1_2, fR2_2, sR_2⟩ := R2.open3; obtain ⟨cQ0_2, cQ1_2, cQ2_2, fQ0_2, fQ1_2, fQ2_2, sQ_2⟩ := Q2.open3; obtain ⟨ay2, ky2, rfl, -⟩ := y2.view; try simp only [List.length_nil] at y2)
      | fail)
    have q := (Blk.next (o := .cells #[.bool (!n'), .slice ay2 (digs BB M').length ky2, .int .i64 E'] 36 (0, 0)) (R2.set3 (.bool (!n')) (.slice ax1 (digs BB M').length kx1) (.int .i64 E'))).open3
    refine bodyPost_ret (v := .agg #[.bool (!n'), .slice ax1 (digs BB M').length kx1, .int .i64 E']) ?_ rfl ?_
    · simp [results, Tryd.results27, go_sem, q.1, q.2.1, q.2.2.1]
    · exact ⟨!n', M', E', _, rfl, ⟨fin, fin2, fin3⟩, (x2.set3 R2 dcells _ _ _).below (below_alloc _ _), bel_next (below_set3b B2 (by omega) _ _ _)⟩

theorem qv_mul (n1 n2 : Bool) (m1 m2 : Nat) (e1 e2 : Int) : qv ⟨n1 != n2, m1 * m2, e1 + e2⟩ = qv ⟨n1, m1, e1⟩ * qv ⟨n2, m2, e2⟩ := by
  unfold qv
  rw [Rat.natCast_mul, pw_add]
  generalize pw e1 = a
  generalize pw e2 = b
  cases n1 <;> cases n2 <;> simp <;> grind
theorem Mid.mul {k : Int} {n1 n2 n : Bool} {m1 m2 : Nat} {e1 e2 : Int} (ha : Mid k ⟨n1, m1, e1⟩) (hb : Mid k ⟨n2, m2, e2⟩) : Mid (k + k) ⟨n, m1 * m2, e1 + e2⟩ := by
  obtain ⟨a1, a2, a3⟩ := ha
  obtain ⟨b1, b2, b3⟩ := hb
  have h := bitN_mul_le m1 m2
  dsimp only at *
  refine ⟨?_, ?_, ?_⟩
  · show -(k + k) ≤ e1 + e2; omega
  · show e1 + e2 ≤ k + k; omega
  · show (bitN (m1 * m2) : Int) + (e1 + e2) ≤ k + k; omega
end Go.Proofs.YtflkemcoomgoiaaDoor
