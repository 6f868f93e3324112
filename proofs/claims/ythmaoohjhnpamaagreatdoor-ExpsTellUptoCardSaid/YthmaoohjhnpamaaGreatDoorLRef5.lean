/- planimeterlaw13.Holds by its contract. Conditions: the numbers are of a middle size. -/
import Derived.Test.YthmaoohjhnpamaaGreatDoorLRef4
namespace Go.Proofs.YthmaoohjhnpamaaGreatDoor
set_option maxRecDepth 100000
open Go.RowKit Go.ChangeShapes Go.WideShapes
set_option linter.unusedVariables false

theorem cells33 {w : World} {b : Nat} {x y z : Value} (h : Blk w b #[x, y, z]) : w.cell? ⟨b, 0, none⟩ = some x ∧ w.cell? ⟨b, 1, none⟩ = some y ∧ w.cell? ⟨b, 2, none⟩ = some z := ⟨h.open3.1, h.open3.2.1, h.open3.2.2.1⟩

set_option maxHeartbeats 2000000 in
theorem lholds_n {w : World} {x y u v : Value} {n1 n2 n o : Bool} {m1 m2 M F : Nat} {e1 e2 E G : Int} (h : RdN w x (digs BB m1)) (h' : RdN w y (digs BB m2)) (k : RdD w u (digs DD M)) (k' : RdD w v (digs DD F)) (b1 : bareD ⟨n1, m1, e1⟩ = ⟨n1, m1, e1⟩) (b2 : bareD ⟨n2, m2, e2⟩ = ⟨n2, m2, e2⟩) (ha : Mid 20000 ⟨n1, m1, e1⟩) (hb : Mid 20000 ⟨n2, m2, e2⟩) (hc : Mid 10000 ⟨n, M, E⟩) (hd : Mid 10000 ⟨o, F, G⟩)
    (f1 : qv ⟨n1, m1, e1⟩ ≤ qv ⟨n, M, E⟩ + qv ⟨o, F, G⟩) (f2 : qv ⟨n, M, E⟩ + -qv ⟨o, F, G⟩ ≤ qv ⟨n2, m2, e2⟩) :
    Calls Tryz.prog 13 #[.agg #[.bool n1, x, .int .i64 e1, .bool n2, y, .int .i64 e2], .agg #[.bool n, u, .int .i64 E], .agg #[.bool o, v, .int .i64 G]] w (fun e w' => e = .returned (.bool true) ∧ Below w.heap.size w w') := by
  obtain ⟨ax, kx, rfl, -⟩ := h.view
  obtain ⟨ay, ky, rfl, -⟩ := h'.view
  obtain ⟨au, ku, rfl, -⟩ := k.view
  obtain ⟨av, kv, rfl, -⟩ := k'.view
  have hneg : qv ⟨!o, F, G⟩ = -qv ⟨o, F, G⟩ := by simp only [qv]; cases o <;> simp <;> grind
  have hd2 : Mid 10000 ⟨!o, F, G⟩ := hd
  have HO1 : Hid (∀ (w : World) v, RdN w v (digs BB m1) → Calls Tryz.prog 46 #[.agg #[.bool n1, v, .int .i64 e1]] w (fun e w' => ∃ u, e = .returned (.agg #[.bool n1, u, .int .i64 e1]) ∧ RdD w' u (digs DD m1) ∧ Below w.heap.size w w')) := Lib.hid (fun w v h => by
    have a1 := ha.nums
    exact lof_n (h.num (by omega)) (by omega) (by omega) (by omega) b1)
  have HO2 : Hid (∀ (w : World) v, RdN w v (digs BB m2) → Calls Tryz.prog 46 #[.agg #[.bool n2, v, .int .i64 e2]] w (fun e w' => ∃ u, e = .returned (.agg #[.bool n2, u, .int .i64 e2]) ∧ RdD w' u (digs DD m2) ∧ Below w.heap.size w w')) := Lib.hid (fun w v h => by
    have a1 := hb.nums
    exact lof_n (h.num (by omega)) (by omega) (by omega) (by omega) b2)
  have HAD : Hid (∀ (w : World) v u b, RdD w v (digs DD M) → RdD w u (digs DD F) → Calls Tryz.prog 21 #[.agg #[.bool n, v, .int .i64 E], .agg #[.bool b, u, .int .i64 G]] w (fun e w' => ∃ n' m' x' v, e = .returned (.agg #[.bool n', v, .int .i64 x']) ∧ (qv ⟨n', m', x'⟩ = qv ⟨n, M, E⟩ + qv ⟨b, F, G⟩ ∧ Mid (10000 + 1) ⟨n', m', x'⟩) ∧ RdD w' v (digs DD m') ∧ Below w.heap.size w w')) := Lib.hid (fun w v u b h k => RAdd_v h k hc hd (by omega) (by omega))
  have ha' := ha; have hb' := hb
  go_enter Tryz.func13, Tryz.ntmps13
  go_upto_region 1 with fail
  have W1 := below_alloc w (.cells #[.bool n1, .slice ax (digs BB m1).length kx, .int .i64 e1, .bool n2, .slice ay (digs BB m2).length ky, .int .i64 e2] 34 (0, 0))
  have W2 := below_alloc (w.alloc (.cells #[.bool n1, .slice ax (digs BB m1).length kx, .int .i64 e1, .bool n2, .slice ay (digs BB m2).length ky, .int .i64 e2] 34 (0, 0))) (.cells #[.bool n, .slice au (digs DD M).length ku, .int .i64 E] 28 (0, 0))
  have W3 := below_alloc ((w.alloc (.cells #[.bool n1, .slice ax (digs BB m1).length kx, .int .i64 e1, .bool n2, .slice ay (digs BB m2).length ky, .int .i64 e2] 34 (0, 0))).alloc (.cells #[.bool n, .slice au (digs DD M).length ku, .int .i64 E] 28 (0, 0))) (.cells #[.bool o, .slice av (digs DD F).length kv, .int .i64 G] 28 (0, 0))
  have I0 : Blk (((w.alloc (.cells #[.bool n1, .slice ax (digs BB m1).length kx, .int .i64 e1, .bool n2, .slice ay (digs BB m2).length ky, .int .i64 e2] 34 (0, 0))).alloc (.cells #[.bool n, .slice au (digs DD M).length ku, .int .i64 E] 28 (0, 0))).alloc (.cells #[.bool o, .slice av (digs DD F).length kv, .int .i64 G] 28 (0, 0))) w.heap.size #[.bool n1, .slice ax (digs BB m1).length kx, .int .i64 e1, .bool n2, .slice ay (digs BB m2).length ky, .int .i64 e2] := (blk_new.below W2).below W3
  have Q0 : Blk (((w.alloc (.cells #[.bool n1, .slice ax (digs BB m1).length kx, .int .i64 e1, .bool n2, .slice ay (digs BB m2).length ky, .int .i64 e2] 34 (0, 0))).alloc (.cells #[.bool n, .slice au (digs DD M).length ku, .int .i64 E] 28 (0, 0))).alloc (.cells #[.bool o, .slice av (digs DD F).length kv, .int .i64 G] 28 (0, 0))) (w.heap.size + 1) #[.bool n, .slice au (digs DD M).length ku, .int .i64 E] := blk_a2.below W3
  have R0 : Blk (((w.alloc (.cells #[.bool n1, .slice ax (digs BB m1).length kx, .int .i64 e1, .bool n2, .slice ay (digs BB m2).length ky, .int .i64 e2] 34 (0, 0))).alloc (.cells #[.bool n, .slice au (digs DD M).length ku, .int .i64 E] 28 (0, 0))).alloc (.cells #[.bool o, .slice av (digs DD F).length kv, .int .i64 G] 28 (0, 0))) (w.heap.size + 1 + 1) #[.bool o, .slice av (digs DD F).length kv, .int .i64 G] := by
    have q := blk_new (w := ((w.alloc (.cells #[.bool n1, .slice ax (digs BB m1).length kx, .int .i64 e1, .bool n2, .slice ay (digs BB m2).length ky, .int .i64 e2] 34 (0, 0))).alloc (.cells #[.bool n, .slice au (digs DD M).length ku, .int .i64 E] 28 (0, 0)))) (c := #[.bool o, .slice av (digs DD F).length kv, .int .i64 G]) (T := 28)
    simpa only [size_alloc] using q
  have h0 := ((h.below W1).below W2).below W3
  have g0 := ((h'.below W1).below W2).below W3
  have k0 := ((k.below W1).below W2).below W3
  have l0 := ((k'.below W1).below W2).below W3
  have B0 : Below w.heap.size w (((w.alloc (.cells #[.bool n1, .slice ax (digs BB m1).length kx, .int .i64 e1, .bool n2, .slice ay (digs BB m2).length ky, .int .i64 e2] 34 (0, 0))).alloc (.cells #[.bool n, .slice au (digs DD M).length ku, .int .i64 E] 28 (0, 0))).alloc (.cells #[.bool o, .slice av (digs DD F).length kv, .int .i64 G] 28 (0, 0))) := (W1.trans (W2.mono W1.size)).trans (W3.mono (Nat.le_trans W1.size W2.size))
  clear W1 W2 W3
  generalize hwx : (((w.alloc (.cells #[.bool n1, .slice ax (digs BB m1).length kx, .int .i64 e1, .bool n2, .slice ay (digs BB m2).length ky, .int .i64 e2] 34 (0, 0))).alloc (.cells #[.bool n, .slice au (digs DD M).length ku, .int .i64 E] 28 (0, 0))).alloc (.cells #[.bool o, .slice av (digs DD F).length kv, .int .i64 G] 28 (0, 0))) = w0 at *
  clear hwx h h' k k'
  have Dw : Below w0.heap.size w0 w0.drew := below_drewN (Below.refl _ _) 1
  have hd := h0.below Dw; have gd := g0.below Dw; have kd := k0.below Dw; have ld := l0.below Dw; have Id := I0.below Dw; have Qd := Q0.below Dw; have Rd := R0.below Dw; have Bd := B0.trans (Dw.mono B0.size)
  have zd := Lib.hid (And.intro (cells46 Id) (And.intro (cells33 Qd) (cells33 Rd)))
  go_region_held3 (fun w' => (w'.cell? ⟨w.heap.size, 0, none⟩ = some (.bool n1) ∧ w'.cell? ⟨w.heap.size, 1, none⟩ = some (.slice ax (digs BB m1).length kx) ∧ w'.cell? ⟨w.heap.size, 2, none⟩ = some (.int .i64 e1) ∧ w'.cell? ⟨w.heap.size, 3, none⟩ = some (.bool n2) ∧ w'.cell? ⟨w.heap.size, 4, none⟩ = some (.slice ay (digs BB m2).length ky) ∧ w'.cell? ⟨w.heap.size, 5, none⟩ = some (.int .i64 e2)) ∧ (w'.cell? ⟨w.heap.size + 1, 0, none⟩ = some (.bool n) ∧ w'.cell? ⟨w.heap.size + 1, 1, none⟩ = some (.slice au (digs DD M).length ku) ∧ w'.cell? ⟨w.heap.size + 1, 2, none⟩ = some (.int .i64 E)) ∧ (w'.cell? ⟨w.heap.size + 1 + 1, 0, none⟩ = some (.bool o) ∧ w'.cell? ⟨w.heap.size + 1 + 1, 1, none⟩ = some (.slice av (digs DD F).length kv) ∧ w'.cell? ⟨w.heap.size + 1 + 1, 2, none⟩ = some (.int .i64 G)))
    (first | exact z0.out | exact zd.out | exact z1.out | exact z2.out | exact z3.out | exact z4.out | exact z5.out | exact z6.out | exact z7.out)
    (first
      | (go_at_call 46; (with_reducible refine (HO1.out _ _ hd).mono ?_); rintro e y1 ⟨va, rfl, ta1, hz1⟩; have h1 := hd.below hz1; have g1 := gd.below hz1; have k1 := kd.below hz1; have l1 := ld.below hz1; have I1 := Id.below hz1; have Q1 := Qd.below hz1; have R1 := Rd.below hz1; have B1 := Bd.trans (hz1.mono Bd.size); have z1 := Lib.hid (And.intro (cells46 I1) (And.intro (cells33 Q1) (cells33 R1))))
      | (go_at_call 21; (with_reducible refine (HAD.out _ _ _ _ k1 l1).mono ?_); rintro e y2 ⟨nb, mb, xb, vb, rfl, ob, tb2, hz2⟩; have ta2 := ta1.below hz2; have h2 := h1.below hz2; have g2 := g1.below hz2; have k2 := k1.below hz2; have l2 := l1.below hz2; have I2 := I1.below hz2; have Q2 := Q1.below hz2; have R2 := R1.below hz2; have B2 := B1.trans (hz2.mono B1.size); have z2 := Lib.hid (And.intro (cells46 I2) (And.intro (cells33 Q2) (cells33 R2))))
      | (go_at_call 29; (with_reducible refine (RCmp_leq ta2 tb2 ha' (ob.2.mono (by omega)) (by omega) (by rw [ob.1]; exact f1)).mono ?_); rintro e y3 ⟨c1, rfl, dc1, hz3⟩; have h3 := h2.below hz3; have g3 := g2.below hz3; have k3 := k2.below hz3; have l3 := l2.below hz3; have I3 := I2.below hz3; have Q3 := Q2.below hz3; have R3 := R2.below hz3; have B3 := B2.trans (hz3.mono B2.size); have z3 := Lib.hid (And.intro (cells46 I3) (And.intro (cells33 Q3) (cells33 R3))))
      | (go_at_call 47; (with_reducible refine (lminus_n l3).mono ?_); rintro e y4 ⟨vd, rfl, td4, hz4⟩; have h4 := h3.below hz4; have g4 := g3.below hz4; have k4 := k3.below hz4; have l4 := l3.below hz4; have I4 := I3.below hz4; have Q4 := Q3.below hz4; have R4 := R3.below hz4; have B4 := B3.trans (hz4.mono B3.size); have z4 := Lib.hid (And.intro (cells46 I4) (And.intro (cells33 Q4) (cells33 R4))))
      | (go_at_call 21; (with_reducible refine (HAD.out _ _ _ _ k4 td4).mono ?_); rintro e y5 ⟨nf, mf, xf, vf, rfl, of, tf5, hz5⟩; have h5 := h4.below hz5; have g5 := g4.below hz5; have k5 := k4.below hz5; have l5 := l4.below hz5; have I5 := I4.below hz5; have Q5 := Q4.below hz5; have R5 := R4.below hz5; have B5 := B4.trans (hz5.mono B4.size); have z5 := Lib.hid (And.intro (cells46 I5) (And.intro (cells33 Q5) (cells33 R5))))
      | (go_at_call 46; (with_reducible refine (HO2.out _ _ g5).mono ?_); rintro e y6 ⟨vg, rfl, tg6, hz6⟩; have tf6 := tf5.below hz6; have h6 := h5.below hz6; have g6 := g5.below hz6; have k6 := k5.below hz6; have l6 := l5.below hz6; have I6 := I5.below hz6; have Q6 := Q5.below hz6; have R6 := R5.below hz6; have B6 := B5.trans (hz6.mono B5.size); have z6 := Lib.hid (And.intro (cells46 I6) (And.intro (cells33 Q6) (cells33 R6))))
      | (go_at_call 29; (with_reducible refine (RCmp_leq tf6 tg6 (of.2.mono (by omega)) hb' (by omega) (by rw [of.1, hneg]; exact f2)).mono ?_); rintro e y7 ⟨c2, rfl, dc2, hz7⟩; have h7 := h6.below hz7; have g7 := g6.below hz7; have k7 := k6.below hz7; have l7 := l6.below hz7; have I7 := I6.below hz7; have Q7 := Q6.below hz7; have R7 := R6.below hz7; have B7 := B6.trans (hz7.mono B6.size); have z7 := Lib.hid (And.intro (cells46 I7) (And.intro (cells33 Q7) (cells33 R7))))
      | fail)
  go_wp2_with fail
  go_ret
  exact ⟨rfl, by assumption⟩
end Go.Proofs.YthmaoohjhnpamaaGreatDoor
