/- series' pairs: plus, rest, by their contracts. Conditions: the numbers are short. -/
import Derived.Test.YtecgimdgmilcbaaDoorSer2
namespace Go.Proofs.YtecgimdgmilcbaaDoor
set_option maxRecDepth 100000
open Go.RowKit Go.ChangeShapes Go.WideShapes

theorem cells22 {w : World} {b c : Nat} {x y z v : Value} (h : Blk w b #[x, y]) (k : Blk w c #[z, v]) : w.cell? ⟨b, 0, none⟩ = some x ∧ w.cell? ⟨b, 1, none⟩ = some y ∧ w.cell? ⟨c, 0, none⟩ = some z ∧ w.cell? ⟨c, 1, none⟩ = some v :=
  ⟨h.open2.1, h.open2.2.1, k.open2.1, k.open2.2.1⟩

theorem Blk.other2 {w : World} {b b' : Nat} {c : Array Value} (h : Blk w b c) (hne : b ≠ b') (x y : Value) : Blk ((w.setCell ⟨b', 0, none⟩ x).setCell ⟨b', 1, none⟩ y) b c := by
  obtain ⟨h1, T, h2⟩ := h
  exact ⟨by simpa [World.setCell] using h1, T, heap_setO (heap_setO h2 x hne) y hne⟩
section
variable {w : World} {a0 b0 a1 b1 : Option Addr} {n0 k0 m0 j0 n1 k1 m1 j1 : Nat} {p q : Pr}

set_option maxHeartbeats 1000000 in
theorem pplus_n (hx : Num w (.slice a0 n0 k0) p.lo) (hy : Num w (.slice b0 m0 j0) p.hi) (hz : Num w (.slice a1 n1 k1) q.lo) (hv : Num w (.slice b1 m1 j1) q.hi) :
    Calls Tryd.prog 36 #[.agg #[.slice a0 n0 k0, .slice b0 m0 j0], .agg #[.slice a1 n1 k1, .slice b1 m1 j1]] w (OneP w (p.plus q)) := by
  unfold Pr.plus
  obtain ⟨X, hX⟩ : ∃ X, p.lo + q.lo = X := ⟨_, rfl⟩
  obtain ⟨Y, hY⟩ : ∃ Y, p.hi + q.hi = Y := ⟨_, rfl⟩
  rw [hX, hY]
  have eX := Lib.hid hX; have eY := Lib.hid hY
  clear hX hY
  go_enter Tryd.func36, Tryd.ntmps36
  go_upto_region 1 with fail
  have x1 := hx.below (below_3 (o1 := .cells #[.slice a0 n0 k0, .slice b0 m0 j0] 63 (0, 0)) (o2 := .cells #[.slice a1 n1 k1, .slice b1 m1 j1] 63 (0, 0)) (o3 := .cells #[.slice none 0 0, .slice none 0 0] 63 (0, 0)))
  have y1 := hy.below (below_3 (o1 := .cells #[.slice a0 n0 k0, .slice b0 m0 j0] 63 (0, 0)) (o2 := .cells #[.slice a1 n1 k1, .slice b1 m1 j1] 63 (0, 0)) (o3 := .cells #[.slice none 0 0, .slice none 0 0] 63 (0, 0)))
  have z1 := hz.below (below_3 (o1 := .cells #[.slice a0 n0 k0, .slice b0 m0 j0] 63 (0, 0)) (o2 := .cells #[.slice a1 n1 k1, .slice b1 m1 j1] 63 (0, 0)) (o3 := .cells #[.slice none 0 0, .slice none 0 0] 63 (0, 0)))
  have v1 := hv.below (below_3 (o1 := .cells #[.slice a0 n0 k0, .slice b0 m0 j0] 63 (0, 0)) (o2 := .cells #[.slice a1 n1 k1, .slice b1 m1 j1] 63 (0, 0)) (o3 := .cells #[.slice none 0 0, .slice none 0 0] 63 (0, 0)))
  have P1 : Blk (((w.alloc (.cells #[.slice a0 n0 k0, .slice b0 m0 j0] 63 (0, 0))).alloc (.cells #[.slice a1 n1 k1, .slice b1 m1 j1] 63 (0, 0))).alloc (.cells #[.slice none 0 0, .slice none 0 0] 63 (0, 0))) w.heap.size #[.slice a0 n0 k0, .slice b0 m0 j0] := blk3_1
  have Q1 : Blk (((w.alloc (.cells #[.slice a0 n0 k0, .slice b0 m0 j0] 63 (0, 0))).alloc (.cells #[.slice a1 n1 k1, .slice b1 m1 j1] 63 (0, 0))).alloc (.cells #[.slice none 0 0, .slice none 0 0] 63 (0, 0))) (w.heap.size + 1) #[.slice a1 n1 k1, .slice b1 m1 j1] := blk3_2
  have R1 : Blk (((w.alloc (.cells #[.slice a0 n0 k0, .slice b0 m0 j0] 63 (0, 0))).alloc (.cells #[.slice a1 n1 k1, .slice b1 m1 j1] 63 (0, 0))).alloc (.cells #[.slice none 0 0, .slice none 0 0] 63 (0, 0))) (w.heap.size + 1 + 1) #[.slice none 0 0, .slice none 0 0] := blk3_3
  have B1 : Below w.heap.size w (((w.alloc (.cells #[.slice a0 n0 k0, .slice b0 m0 j0] 63 (0, 0))).alloc (.cells #[.slice a1 n1 k1, .slice b1 m1 j1] 63 (0, 0))).alloc (.cells #[.slice none 0 0, .slice none 0 0] 63 (0, 0))) := below_3
  clear hx hy hz hv
  have hs : w.heap.size ≤ w.heap.size + 1 + 1 := by omega
  generalize (((w.alloc (.cells #[.slice a0 n0 k0, .slice b0 m0 j0] 63 (0, 0))).alloc (.cells #[.slice a1 n1 k1, .slice b1 m1 j1] 63 (0, 0))).alloc (.cells #[.slice none 0 0, .slice none 0 0] 63 (0, 0))) = wb at *
  have D : Below wb.heap.size wb wb.drew := below_drewN (Below.refl _ _) 1
  have x2 := x1.below D; have y2 := y1.below D; have z2 := z1.below D; have v2 := v1.below D
  have P2 := P1.below D; have Q2 := Q1.below D; have R2 := R1.below D; have B2 := B1.trans (D.mono B1.size)
  have k2 := Lib.hid (cells22 P2 Q2)
  clear x1 y1 z1 v1 P1 Q1 R1 B1 D
  go_region_held3 (fun w' => w'.cell? ⟨w.heap.size, 0, none⟩ = some (.slice a0 n0 k0) ∧ w'.cell? ⟨w.heap.size, 1, none⟩ = some (.slice b0 m0 j0) ∧ w'.cell? ⟨w.heap.size + 1, 0, none⟩ = some (.slice a1 n1 k1) ∧ w'.cell? ⟨w.heap.size + 1, 1, none⟩ = some (.slice b1 m1 j1))
    (first | exact k2.out | exact k3.out | exact k4.out | exact cells22 (P4.other2 (by omega) _ _) (Q4.other2 (by omega) _ _))
    (first
      | (go_at_call 19; (with_reducible refine (add_n x2 z2 eX.out).mono ?_); rintro e w3 ⟨vl, rfl, rl, h3⟩; obtain ⟨al, kl, rfl, -⟩ := rl.view; have y3 := y2.below h3; have v3 := v2.below h3; have P3 := P2.below h3; have Q3 := Q2.below h3; have R3 := R2.below h3; have B3 := B2.trans (h3.mono B2.size); have k3 := Lib.hid (cells22 P3 Q3))
      | (go_at_call 19; (with_reducible refine (add_n y2 v2 eY.out).mono ?_); rintro e w3 ⟨vh, rfl, rh, h3⟩; obtain ⟨ah, kh, rfl, -⟩ := rh.view; have x3 := x2.below h3; have z3 := z2.below h3; have P3 := P2.below h3; have Q3 := Q2.below h3; have R3 := R2.below h3; have B3 := B2.trans (h3.mono B2.size); have k3 := Lib.hid (cells22 P3 Q3))
      | (go_at_call 19; (with_reducible refine (add_n y3 v3 eY.out).mono ?_); rintro e w4 ⟨vh, rfl, rh, h4⟩; obtain ⟨ah, kh, rfl, -⟩ := rh.view; have rl4 := rl.below h4; have rh4 := rh; have R4 := R3.below h4; have B4 := B3.trans (h4.mono B3.size); have P4 := P3.below h4; have Q4 := Q3.below h4; have k4 := Lib.hid (cells22 P4 Q4); obtain ⟨g0, g1, f0, f1, -⟩ := R4.open2)
      | (go_at_call 19; (with_reducible refine (add_n x3 z3 eX.out).mono ?_); rintro e w4 ⟨vl, rfl, rl, h4⟩; obtain ⟨al, kl, rfl, -⟩ := rl.view; have rh4 := rh.below h4; have rl4 := rl; have R4 := R3.below h4; have B4 := B3.trans (h4.mono B3.size); have P4 := P3.below h4; have Q4 := Q3.below h4; have k4 := Lib.hid (cells22 P4 Q4); obtain ⟨g0, g1, f0, f1, -⟩ := R4.open2)
      | fail)
  all_goals
    go_wp2_with fail
    obtain ⟨q0, q1, -⟩ := (R4.set2 (.slice al (digs BB X).length kl) (.slice ah (digs BB Y).length kh)).open2
    refine bodyPost_ret (v := .agg #[.slice al (digs BB X).length kl, .slice ah (digs BB Y).length kh]) (by simp [results, Tryd.results36, go_sem, q0, q1]) rfl ⟨_, _, _, _, _, _, rfl, rl4.set2 R4 pcells _ _, rh4.set2 R4 pcells _ _, ?_⟩
    exact below_set (below_set B4 hs _) hs _
set_option maxHeartbeats 1000000 in
theorem prest_n (hx : RdN w (.slice a0 n0 k0) (digs BB p.lo)) (hy : Num w (.slice b0 m0 j0) p.hi) (hv : Num w (.slice b1 m1 j1) q.hi) (sv : bitN q.hi ≤ 20000) :
    Calls Tryd.prog 38 #[.agg #[.slice a0 n0 k0, .slice b0 m0 j0], .agg #[.slice a1 n1 k1, .slice b1 m1 j1]] w (OneP w (p.rest q)) := by
  unfold Pr.rest
  obtain ⟨X, hX⟩ : ∃ X, q.hi + q.hi = X := ⟨_, rfl⟩
  obtain ⟨Y, hY⟩ : ∃ Y, p.hi + X = Y := ⟨_, rfl⟩
  rw [hX, hY]
  have sX : bitN X ≤ 2560000 := by rw [← hX]; exact Nat.le_trans (bitN_add_le _ _) (by omega)
  have eX := Lib.hid hX; have eY := Lib.hid hY
  clear hX hY
  go_enter Tryd.func38, Tryd.ntmps38
  go_upto_region 1 with fail
  have x1 := hx.below (below_3 (o1 := .cells #[.slice a0 n0 k0, .slice b0 m0 j0] 63 (0, 0)) (o2 := .cells #[.slice a1 n1 k1, .slice b1 m1 j1] 63 (0, 0)) (o3 := .cells #[.slice none 0 0, .slice none 0 0] 63 (0, 0)))
  have y1 := hy.below (below_3 (o1 := .cells #[.slice a0 n0 k0, .slice b0 m0 j0] 63 (0, 0)) (o2 := .cells #[.slice a1 n1 k1, .slice b1 m1 j1] 63 (0, 0)) (o3 := .cells #[.slice none 0 0, .slice none 0 0] 63 (0, 0)))
  have v1 := hv.below (below_3 (o1 := .cells #[.slice a0 n0 k0, .slice b0 m0 j0] 63 (0, 0)) (o2 := .cells #[.slice a1 n1 k1, .slice b1 m1 j1] 63 (0, 0)) (o3 := .cells #[.slice none 0 0, .slice none 0 0] 63 (0, 0)))
  have P1 : Blk (((w.alloc (.cells #[.slice a0 n0 k0, .slice b0 m0 j0] 63 (0, 0))).alloc (.cells #[.slice a1 n1 k1, .slice b1 m1 j1] 63 (0, 0))).alloc (.cells #[.slice none 0 0, .slice none 0 0] 63 (0, 0))) w.heap.size #[.slice a0 n0 k0, .slice b0 m0 j0] := blk3_1
  have Q1 : Blk (((w.alloc (.cells #[.slice a0 n0 k0, .slice b0 m0 j0] 63 (0, 0))).alloc (.cells #[.slice a1 n1 k1, .slice b1 m1 j1] 63 (0, 0))).alloc (.cells #[.slice none 0 0, .slice none 0 0] 63 (0, 0))) (w.heap.size + 1) #[.slice a1 n1 k1, .slice b1 m1 j1] := blk3_2
  have R1 : Blk (((w.alloc (.cells #[.slice a0 n0 k0, .slice b0 m0 j0] 63 (0, 0))).alloc (.cells #[.slice a1 n1 k1, .slice b1 m1 j1] 63 (0, 0))).alloc (.cells #[.slice none 0 0, .slice none 0 0] 63 (0, 0))) (w.heap.size + 1 + 1) #[.slice none 0 0, .slice none 0 0] := blk3_3
  have B1 : Below w.heap.size w (((w.alloc (.cells #[.slice a0 n0 k0, .slice b0 m0 j0] 63 (0, 0))).alloc (.cells #[.slice a1 n1 k1, .slice b1 m1 j1] 63 (0, 0))).alloc (.cells #[.slice none 0 0, .slice none 0 0] 63 (0, 0))) := below_3
  clear hx hy hv
  have hs : w.heap.size ≤ w.heap.size + 1 + 1 := by omega
  generalize (((w.alloc (.cells #[.slice a0 n0 k0, .slice b0 m0 j0] 63 (0, 0))).alloc (.cells #[.slice a1 n1 k1, .slice b1 m1 j1] 63 (0, 0))).alloc (.cells #[.slice none 0 0, .slice none 0 0] 63 (0, 0))) = wb at *
  have D : Below wb.heap.size wb wb.drew := below_drewN (Below.refl _ _) 1
  have x2 := x1.below D; have y2 := y1.below D; have v2 := v1.below D
  have P2 := P1.below D; have Q2 := Q1.below D; have R2 := R1.below D; have B2 := B1.trans (D.mono B1.size)
  have k2 := Lib.hid (cells22 P2 Q2)
  clear x1 y1 v1 P1 Q1 R1 B1 D
  go_region_held3 (fun w' => w'.cell? ⟨w.heap.size, 0, none⟩ = some (.slice a0 n0 k0) ∧ w'.cell? ⟨w.heap.size, 1, none⟩ = some (.slice b0 m0 j0) ∧ w'.cell? ⟨w.heap.size + 1, 0, none⟩ = some (.slice a1 n1 k1) ∧ w'.cell? ⟨w.heap.size + 1, 1, none⟩ = some (.slice b1 m1 j1))
    (first | exact k2.out | exact k3.out | exact k4.out | exact cells22 (P4.other2 (by omega) _ _) (Q4.other2 (by omega) _ _))
    (first
      | (go_at_call 19; (with_reducible refine (add_n v2 v2 eX.out).mono ?_); rintro e w3 ⟨vs, rfl, rs, h3⟩; obtain ⟨aq, kq, rfl, -⟩ := rs.view; have x3 := x2.below h3; have y3 := y2.below h3; have P3 := P2.below h3; have Q3 := Q2.below h3; have R3 := R2.below h3; have B3 := B2.trans (h3.mono B2.size); have k3 := Lib.hid (cells22 P3 Q3))
      | (go_at_call 19; (with_reducible refine (add_n y3 (rs.num sX) eY.out).mono ?_); rintro e w4 ⟨vh, rfl, rh4, h4⟩; obtain ⟨ah, kh, rfl, -⟩ := rh4.view; have rl4 := x3.below h4; have R4 := R3.below h4; have B4 := B3.trans (h4.mono B3.size); have P4 := P3.below h4; have Q4 := Q3.below h4; have k4 := Lib.hid (cells22 P4 Q4); obtain ⟨g0, g1, f0, f1, -⟩ := R4.open2)
      | fail)
  all_goals
    go_wp2_with fail
    obtain ⟨q0, q1, -⟩ := (R4.set2 (.slice a0 n0 k0) (.slice ah (digs BB Y).length kh)).open2
    refine bodyPost_ret (v := .agg #[.slice a0 n0 k0, .slice ah (digs BB Y).length kh]) (by simp [results, Tryd.results38, go_sem, q0, q1]) rfl ⟨_, _, _, _, _, _, rfl, rl4.set2 R4 pcells _ _, rh4.set2 R4 pcells _ _, ?_⟩
    exact below_set (below_set B4 hs _) hs _
end
end Go.Proofs.YtecgimdgmilcbaaDoor
