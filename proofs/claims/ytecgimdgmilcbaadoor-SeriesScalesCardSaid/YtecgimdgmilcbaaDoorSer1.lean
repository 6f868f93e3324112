/- series' pairs: upShift, fraction, times, by, plus, rest, by their contracts. Conditions: the numbers are short; math/bits' table stands in its variable. -/
import Derived.Test.YtecgimdgmilcbaaDoorDy1
import Derived.Test.YtecgimdgmilcbaaDoorAtLaw
import Derived.Deep.RegionHeld3
import Derived.Deep.CutBlock
namespace Go.Proofs.YtecgimdgmilcbaaDoor
set_option maxRecDepth 100000
open Go.RowKit Go.ChangeShapes Go.WideShapes

theorem Blk.open2 {w : World} {b : Nat} {x y : Value} (h : Blk w b #[x, y]) : w.cell? ⟨b, 0, none⟩ = some x ∧ w.cell? ⟨b, 1, none⟩ = some y ∧ w.frozen? ⟨b, 0, none⟩ = false ∧ w.frozen? ⟨b, 1, none⟩ = false ∧ b < w.heap.size := by
  obtain ⟨h1, T, h2⟩ := h
  exact ⟨cell_at h2 rfl, cell_at h2 rfl, free_at h2, free_at h2, h1⟩
theorem Blk.set2 {w : World} {b : Nat} {x y : Value} (h : Blk w b #[x, y]) (x' y' : Value) : Blk ((w.setCell ⟨b, 0, none⟩ x').setCell ⟨b, 1, none⟩ y') b #[x', y'] := by
  obtain ⟨h1, T, h2⟩ := h
  exact ⟨by simpa [World.setCell] using h1, T, heap_setC (heap_setC h2 x') y'⟩
theorem RdN.set2 {w : World} {v : Value} {l : List Nat} {b : Nat} {c : Array Value} (h : RdN w v l) (hB : Blk w b c) (hc : ∀ x ∈ c.toList, ∀ n : Nat, x ≠ L64 n) (x y : Value) :
    RdN ((w.setCell ⟨b, 0, none⟩ x).setCell ⟨b, 1, none⟩ y) v l := by
  have h2 := (h.away hB hc).keep (S := fun g => g = b) (((Fr.refl (fun g => g = b) w).setCell (p := ⟨b, 0, none⟩) rfl x).setCell (p := ⟨b, 1, none⟩) rfl y) (fun _ h => h)
  exact h2.mono (fun _ _ _ => trivial)
theorem pcells {a b : Option Addr} {n m k j : Nat} : ∀ x ∈ (#[.slice a n k, .slice b m j] : Array Value).toList, ∀ i : Nat, x ≠ L64 i := by
  intro x hx i
  simp at hx
  rcases hx with rfl | rfl <;> simp [L64]
theorem blk3_1 {w : World} {c : Array Value} {T : TypeId} {o o' : Obj} : Blk (((w.alloc (.cells c T (0, 0))).alloc o).alloc o') w.heap.size c := blk_a1.below (below_alloc _ _)
theorem blk3_2 {w : World} {c : Array Value} {T : TypeId} {o o' : Obj} : Blk (((w.alloc o).alloc (.cells c T (0, 0))).alloc o') (w.heap.size + 1) c := blk_a2.below (below_alloc _ _)
theorem blk3_3 {w : World} {c : Array Value} {T : TypeId} {o o' : Obj} : Blk (((w.alloc o).alloc o').alloc (.cells c T (0, 0))) (w.heap.size + 1 + 1) c := by
  have h : Blk (((w.alloc o).alloc o').alloc (.cells c T (0, 0))) ((w.alloc o).alloc o').heap.size c := blk_new
  simpa using h
theorem below_3 {w : World} {o1 o2 o3 : Obj} : Below w.heap.size w (((w.alloc o1).alloc o2).alloc o3) := below_a below_2

/-- A pair is told. -/
def OneP (w : World) (p : Pr) (e : Ending) (w' : World) : Prop := ∃ a n k b m j, e = .returned (.agg #[.slice a n k, .slice b m j]) ∧ RdN w' (.slice a n k) (digs BB p.lo) ∧ RdN w' (.slice b m j) (digs BB p.hi) ∧ Below w.heap.size w w'

theorem bitN_shl (A n : Nat) : bitN (A * 2 ^ n) ≤ bitN A + n := bitN_le.2 (by rw [Nat.pow_add]; exact Nat.mul_lt_mul_of_pos_right (bitN_lt A) (Nat.two_pow_pos n))
theorem upShift_n {w : World} {v : Value} {A n C : Nat} (h : Num w v A) (hT : Tab w) (e : cdiv A (2 ^ n) = C) (hn : n ≤ 9223372036854775807) : Calls Tryd.prog 63 #[v, .int .i64 n] w (One w (digs BB C)) := by
  have sA := h.bound
  have sq : bitN (A / 2 ^ n) ≤ 2560000 := Nat.le_trans (bitN_mono (Nat.div_le_self _ _)) sA
  obtain ⟨Q, hQ⟩ : ∃ Q, A / 2 ^ n = Q := ⟨_, rfl⟩
  have eQ := Lib.hid hQ
  rw [hQ] at sq
  unfold cdiv at e
  rw [hQ] at e
  clear hQ
  have HS := Lib.hid (shr_n h hT eQ.out hn)
  by_cases h0 : A % 2 ^ n = 0
  · rw [if_pos h0] at e
    subst e
    rw [show decide (A % 2 ^ n ≠ 0) = false from decide_eq_false (fun h => h h0)] at HS
    clear h0 h hT
    go_enter Tryd.func63, Tryd.ntmps63
    go_wp2_with
    (first
      | (go_at_call 62; (with_reducible refine (HS.out).mono ?_); rintro e w1 ⟨vq1, rfl, q1, hb1⟩; have B1 := hb1)
      | fail)
    go_ret
    exact ⟨_, rfl, q1, B1⟩
  · rw [if_neg h0] at e
    rw [show decide (A % 2 ^ n ≠ 0) = true from decide_eq_true h0] at HS
    have eC := Lib.hid e
    clear h0 h hT e
    go_enter Tryd.func63, Tryd.ntmps63
    go_wp2_with
    (first
      | (go_at_call 62; (with_reducible refine (HS.out).mono ?_); rintro e w1 ⟨vq1, rfl, q1, hb1⟩; have B1 := hb1)
      | (go_at_call 46; (with_reducible refine (of_1).mono ?_); rintro e w2 ⟨vo2, rfl, o2, hb2⟩; have B2 := B1.trans (hb2.mono B1.size); have q2 := q1.below hb2; clear q1)
      | (go_at_call 19; (with_reducible refine (add_n (q2.num sq) (o2.num (by rw [bitN_one]; decide)) eC.out).mono ?_); rintro e w3 ⟨vr3, rfl, r3, hb3⟩; have B3 := B2.trans (hb3.mono B2.size); have q3 := q2.below hb3; have o3 := o2.below hb3; clear q2 o2)
      | fail)
    go_ret
    exact ⟨_, rfl, r3, B3⟩

theorem frac_n {w : World} {v u : Value} {A B n : Nat} (h : Num w v A) (k : Num w u B) (hT : Tab w) (h0 : B ≠ 0) (hn : n + bitN A ≤ 65536) : Calls Tryd.prog 34 #[v, u, .int .i64 n] w (OneP w (fracP A B (2 ^ n))) := by
  obtain ⟨C, hC⟩ : ∃ C, A * 2 ^ n = C := ⟨_, rfl⟩
  have sC : bitN C ≤ 2560000 := by rw [← hC]; exact Nat.le_trans (bitN_shl _ _) (by omega)
  unfold fracP
  rw [hC]
  have eC := Lib.hid hC; clear hC
  obtain ⟨Q, hQ⟩ : ∃ Q, C / B = Q := ⟨_, rfl⟩
  obtain ⟨R, hR⟩ : ∃ R, C % B = R := ⟨_, rfl⟩
  have sQ : bitN Q ≤ 2560000 := by rw [← hQ]; exact Nat.le_trans (bitN_mono (Nat.div_le_self _ _)) sC
  have eQ := Lib.hid hQ; have eR := Lib.hid hR
  unfold cdiv
  rw [hQ, hR]
  clear hQ hR
  by_cases hr : R = 0
  · subst hr
    rw [if_pos rfl]
    go_enter Tryd.func34, Tryd.ntmps34
    go_wp2_with
    (first
      | (go_at_call 17; (with_reducible refine (shl_n (h.below (below_alloc _ _)) eC.out hn).mono ?_); rintro e w1 ⟨vs1, rfl, s1, hb1⟩; have B1 := (below_alloc _ _).trans (hb1.mono (below_alloc _ _).size); have h1 := ((h.below (below_alloc _ _))).below hb1; have k1 := ((k.below (below_alloc _ _))).below hb1; have T1 := ((hT.below (below_alloc _ _))).below hb1; have R1 := ((blk_new)).below hb1; obtain ⟨cR0_1, cR1_1, fR0_1, fR1_1, sR_1⟩ := R1.open2)
      | (go_at_call 61; (with_reducible refine (div_n (s1.num sC) k1 T1 h0 eQ.out eR.out).mono ?_); rintro e w2 ⟨vq2, vr2, rfl, q2, r2, hb2⟩; have B2 := B1.trans (hb2.mono B1.size); have h2 := h1.below hb2; have k2 := k1.below hb2; have T2 := T1.below hb2; have R2 := R1.below hb2; have s2 := s1.below hb2; clear h1 k1 T1 R1 s1; clear cR0_1 cR1_1 fR0_1 fR1_1 sR_1; obtain ⟨cR0_2, cR1_2, fR0_2, fR1_2, sR_2⟩ := R2.open2; obtain ⟨ar2, kr2, rfl⟩ := r2.rnone; obtain ⟨aq2, kq2, rfl, -⟩ := q2.view; try simp only [List.length_nil] at q2)
      | fail)
    obtain ⟨z0, z1, -⟩ := (R2.set2 (.slice aq2 (digs BB Q).length kq2) (.slice aq2 (digs BB Q).length kq2)).open2
    refine bodyPost_ret (v := .agg #[.slice aq2 (digs BB Q).length kq2, .slice aq2 (digs BB Q).length kq2]) (by simp [results, Tryd.results34, go_sem, z0, z1]) rfl ⟨_, _, _, _, _, _, rfl, q2.set2 R2 pcells _ _, q2.set2 R2 pcells _ _, ?_⟩
    exact below_set (below_set B2 (by omega) _) (by omega) _
  · rw [if_neg hr]
    have hrl : 0 < (digs BB R).length := List.length_pos_iff.2 (fun e => hr ((digs_nil_iff BB_two _).1 e))
    go_enter Tryd.func34, Tryd.ntmps34
    go_wp2_with
    (first
      | (go_at_call 17; (with_reducible refine (shl_n (h.below (below_alloc _ _)) eC.out hn).mono ?_); rintro e w1 ⟨vs1, rfl, s1, hb1⟩; have B1 := (below_alloc _ _).trans (hb1.mono (below_alloc _ _).size); have h1 := ((h.below (below_alloc _ _))).below hb1; have k1 := ((k.below (below_alloc _ _))).below hb1; have T1 := ((hT.below (below_alloc _ _))).below hb1; have R1 := ((blk_new)).below hb1; obtain ⟨cR0_1, cR1_1, fR0_1, fR1_1, sR_1⟩ := R1.open2)
      | (go_at_call 61; (with_reducible refine (div_n (s1.num sC) k1 T1 h0 eQ.out eR.out).mono ?_); rintro e w2 ⟨vq2, vr2, rfl, q2, r2, hb2⟩; have B2 := B1.trans (hb2.mono B1.size); have h2 := h1.below hb2; have k2 := k1.below hb2; have T2 := T1.below hb2; have R2 := R1.below hb2; have s2 := s1.below hb2; clear h1 k1 T1 R1 s1; clear cR0_1 cR1_1 fR0_1 fR1_1 sR_1; obtain ⟨cR0_2, cR1_2, fR0_2, fR1_2, sR_2⟩ := R2.open2; obtain ⟨aq2, kq2, rfl, -⟩ := q2.view; (try simp only [List.length_nil] at q2); obtain ⟨ar2, kr2, rfl, -⟩ := r2.view; try simp only [List.length_nil] at r2)
      | (go_at_call 46; (with_reducible refine (of_1).mono ?_); rintro e w3 ⟨vo3, rfl, o3, hb3⟩; have B3 := B2.trans (hb3.mono B2.size); have h3 := h2.below hb3; have k3 := k2.below hb3; have T3 := T2.below hb3; have R3 := R2.below hb3; have s3 := s2.below hb3; have q3 := q2.below hb3; have r3 := r2.below hb3; clear h2 k2 T2 R2 s2 q2 r2; clear cR0_2 cR1_2 fR0_2 fR1_2 sR_2; obtain ⟨cR0_3, cR1_3, fR0_3, fR1_3, sR_3⟩ := R3.open2)
      | (go_at_call 19; (with_reducible refine (add_n (q3.num sQ) (o3.num (by rw [bitN_one]; decide)) rfl).mono ?_); rintro e w4 ⟨vp4, rfl, p4, hb4⟩; have B4 := B3.trans (hb4.mono B3.size); have h4 := h3.below hb4; have k4 := k3.below hb4; have T4 := T3.below hb4; have R4 := R3.below hb4; have s4 := s3.below hb4; have q4 := q3.below hb4; have r4 := r3.below hb4; have o4 := o3.below hb4; clear h3 k3 T3 R3 s3 q3 r3 o3; clear cR0_3 cR1_3 fR0_3 fR1_3 sR_3; obtain ⟨cR0_4, cR1_4, fR0_4, fR1_4, sR_4⟩ := R4.open2; obtain ⟨ap4, kp4, rfl, -⟩ := p4.view; try simp only [List.length_nil] at p4)
      | fail)
    obtain ⟨z0, z1, -⟩ := (R4.set2 (.slice aq2 (digs BB Q).length kq2) (.slice ap4 (digs BB (Q + 1)).length kp4)).open2
    refine bodyPost_ret (v := .agg #[.slice aq2 (digs BB Q).length kq2, .slice ap4 (digs BB (Q + 1)).length kp4]) (by simp [results, Tryd.results34, go_sem, z0, z1]) rfl ⟨_, _, _, _, _, _, rfl, q4.set2 R4 pcells _ _, p4.set2 R4 pcells _ _, ?_⟩
    exact below_set (below_set B4 (by omega) _) (by omega) _
end Go.Proofs.YtecgimdgmilcbaaDoor
