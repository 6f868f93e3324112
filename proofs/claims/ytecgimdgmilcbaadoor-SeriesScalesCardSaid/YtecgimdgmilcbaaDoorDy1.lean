/- dyad.bare and dyad.Bare by their contracts. Conditions: the number is short; math/bits' table stands in its variable. -/
import Derived.Test.YtecgimdgmilcbaaDoorQuoE
import Derived.Test.YtecgimdgmilcbaaDoorDyLaw
import Derived.Test.YtecgimdgmilcbaaDoorRefA
namespace Go.Proofs.YtecgimdgmilcbaaDoor
set_option maxRecDepth 100000
open Go.RowKit Go.ChangeShapes Go.WideShapes

theorem low_n {w : World} {v : Value} {A k : Nat} (h : Num w v A) (hT : Tab w) (h0 : A ≠ 0) (e : low2 A = k) : Calls Tryd.prog 79 #[v] w (fun e w' => e = .returned (.int .i64 (k : Int)) ∧ w' = w) := by
  obtain ⟨l, h1, h2, h3, rfl⟩ := h
  subst e
  refine (low_any h1 h2 (by omega) hT).mono ?_
  rintro e w' ⟨k, rfl, hk, rfl, -⟩
  rcases hk with ⟨h, -⟩ | ⟨m, hm⟩
  · exact absurd h h0
  · exact ⟨by rw [low2_uniq hm], rfl⟩
theorem shr_n {w : World} {v : Value} {A n C : Nat} (h : Num w v A) (hT : Tab w) (e : A / 2 ^ n = C) (hn : n ≤ 9223372036854775807) : Calls Tryd.prog 62 #[v, .int .i64 n] w (fun e w' => ∃ v, e = .returned (.tuple #[v, .bool (decide (A % 2 ^ n ≠ 0))]) ∧ RdN w' v (digs BB C) ∧ Below w.heap.size w w') := by
  obtain ⟨l, h1, h2, h3, rfl⟩ := h
  subst e
  exact shr_any h1 h2 (i := (n : Int)) (by omega) (by omega) (by omega) hT

/-- d reads as the dyad D. -/
def Dv (w : World) (d : Value) (D : Dn) : Prop := ∃ v, d = .agg #[.bool D.neg, v, .int .i64 D.e] ∧ Num w v D.m ∧ -9223372036854775808 ≤ D.e ∧ D.e ≤ 9223372036854775807
theorem Dv.below {w w' : World} {d : Value} {D : Dn} (h : Dv w d D) (hb : Below w.heap.size w w') : Dv w' d D := by
  obtain ⟨v, h1, h2, h3⟩ := h; exact ⟨v, h1, h2.below hb, h3⟩
/-- d is told as the bare dyad D. -/
def Db (w : World) (d : Value) (D : Dn) : Prop := ∃ v, d = .agg #[.bool D.neg, v, .int .i64 D.e] ∧ RdN w v (digs BB D.m)
theorem Db.below {w w' : World} {d : Value} {D : Dn} (h : Db w d D) (hb : Below w.heap.size w w') : Db w' d D := by
  obtain ⟨v, h1, h2⟩ := h; exact ⟨v, h1, h2.below hb⟩

theorem Num.slice {w : World} {v : Value} {n : Nat} (h : Num w v n) : ∃ a, ∃ m k : Nat, v = .slice a m k := by
  obtain ⟨l, h1, -⟩ := h
  obtain ⟨a, k, h2, -⟩ := h1.view
  exact ⟨a, _, k, h2⟩

/-- Block b holds these cells, and may be written. -/
def Blk (w : World) (b : Nat) (c : Array Value) : Prop := b < w.heap.size ∧ ∃ T, w.heap[b]? = some (.cells c T (0, 0))
theorem Blk.below {w w' : World} {b : Nat} {c : Array Value} (h : Blk w b c) (hb : Below w.heap.size w w') : Blk w' b c := by
  obtain ⟨h1, T, h2⟩ := h
  exact ⟨Nat.lt_of_lt_of_le h1 hb.size, T, by rw [hb.block b h1]; exact h2⟩
theorem Blk.open3 {w : World} {b : Nat} {x y z : Value} (h : Blk w b #[x, y, z]) : w.cell? ⟨b, 0, none⟩ = some x ∧ w.cell? ⟨b, 1, none⟩ = some y ∧ w.cell? ⟨b, 2, none⟩ = some z ∧ w.frozen? ⟨b, 0, none⟩ = false ∧ w.frozen? ⟨b, 1, none⟩ = false ∧ w.frozen? ⟨b, 2, none⟩ = false ∧ b < w.heap.size := by
  obtain ⟨h1, T, h2⟩ := h
  exact ⟨cell_at h2 rfl, cell_at h2 rfl, cell_at h2 rfl, free_at h2, free_at h2, free_at h2, h1⟩
theorem blk_new {w : World} {c : Array Value} {T : TypeId} : Blk (w.alloc (.cells c T (0, 0))) w.heap.size c := ⟨by simp, T, heap_alloc_new _ _⟩
theorem blk_a1 {w : World} {c : Array Value} {T : TypeId} {o : Obj} : Blk ((w.alloc (.cells c T (0, 0))).alloc o) w.heap.size c := blk_new.below (below_alloc _ _)
theorem blk_a2 {w : World} {c : Array Value} {T : TypeId} {o : Obj} : Blk ((w.alloc o).alloc (.cells c T (0, 0))) (w.heap.size + 1) c :=
  ⟨by simp, T, heap_new2 _ _ _⟩
theorem Blk.set3 {w : World} {b : Nat} {x y z : Value} (h : Blk w b #[x, y, z]) (x' y' z' : Value) : Blk (((w.setCell ⟨b, 0, none⟩ x').setCell ⟨b, 1, none⟩ y').setCell ⟨b, 2, none⟩ z') b #[x', y', z'] := by
  obtain ⟨h1, T, h2⟩ := h
  exact ⟨by simpa [World.setCell] using h1, T, heap_setC (heap_setC (heap_setC h2 x') y') z'⟩
theorem below_2 {w : World} {o1 o2 : Obj} : Below w.heap.size w ((w.alloc o1).alloc o2) := below_a (below_alloc _ _)
theorem below_set {w w' : World} (h : Below w.heap.size w w') {b j : Nat} (hb : w.heap.size ≤ b) (v : Value) : Below w.heap.size w (w'.setCell ⟨b, j, none⟩ v) := h.setCell hb v

/-- What reads as limbs lies in no block of other things. -/
theorem RdN.away {w : World} {v : Value} {l : List Nat} {b : Nat} {c : Array Value} (h : RdN w v l) (hB : Blk w b c) (hc : ∀ x ∈ c.toList, ∀ n : Nat, x ≠ L64 n) : Rd (fun g => g ≠ b) w v (l.map L64) := by
  obtain ⟨a, k, h1, h2, h3, h4, h5⟩ := h
  obtain ⟨hb, T, hh⟩ := hB
  refine ⟨a, k, h1, h2, h3, h4, fun j u hj => ?_⟩
  obtain ⟨g, off, e1, _, e3⟩ := h5 j u hj
  refine ⟨g, off, e1, fun e => ?_, e3⟩
  subst e
  rw [World.cell?, hh] at e3
  obtain ⟨n, -, rfl⟩ := List.mem_map.1 (List.mem_of_getElem? hj)
  have e4 : c[off + j]? = some (L64 n) := by simpa using e3
  exact hc _ (by rw [← Array.getElem?_toList] at e4; exact List.mem_of_getElem? e4) n rfl
theorem RdN.set3 {w : World} {v : Value} {l : List Nat} {b : Nat} {c : Array Value} (h : RdN w v l) (hB : Blk w b c) (hc : ∀ x ∈ c.toList, ∀ n : Nat, x ≠ L64 n) (x y z : Value) :
    RdN (((w.setCell ⟨b, 0, none⟩ x).setCell ⟨b, 1, none⟩ y).setCell ⟨b, 2, none⟩ z) v l := by
  have h2 := (h.away hB hc).keep (S := fun g => g = b) ((((Fr.refl (fun g => g = b) w).setCell (p := ⟨b, 0, none⟩) rfl x).setCell (p := ⟨b, 1, none⟩) rfl y).setCell (p := ⟨b, 2, none⟩) rfl z) (fun _ h => h)
  exact h2.mono (fun _ _ _ => trivial)
/-- A dyad's cells are no limbs. -/
theorem dcells {p : Bool} {a : Option Addr} {n k : Nat} {e : Int} : ∀ x ∈ (#[.bool p, .slice a n k, .int .i64 e] : Array Value).toList, ∀ m : Nat, x ≠ L64 m := by
  intro x hx m
  simp at hx
  rcases hx with rfl | rfl | rfl <;> simp [L64]

theorem cut_n {w : World} {e : Int} : Calls Tryd.prog 81 #[.int .i64 e] w (fun r w' => r = .returned (.int .i64 (cutE e)) ∧ w' = w) := by
  unfold cutE
  go_enter Tryd.func81, Tryd.ntmps81
  go_wp2
  go_ret
  exact ⟨rfl, rfl⟩

set_option maxHeartbeats 800000 in
theorem dbare_n {w : World} {d : Value} {D : Dn} (h : Dv w d D) (hT : Tab w) : Calls Tryd.prog 75 #[d] w (fun e w' => ∃ v, e = .returned v ∧ Db w' v (bareD D) ∧ Below w.heap.size w w') := by
  obtain ⟨v, rfl, hM, hE1, hE2⟩ := h
  have sM := hM.bound
  obtain ⟨neg, M, E⟩ := D
  simp only at hM hE1 hE2 sM ⊢
  by_cases h0 : M = 0
  · subst h0
    rw [bareD_zero rfl]
    go_enter Tryd.func75, Tryd.ntmps75
    go_wp2_with
    (first
      | (go_at_call 44; (with_reducible refine (bare_n (hM.below below_2)).mono ?_); rintro e w1 ⟨vs1, rfl, s1, hb1⟩; have B1 := below_2.trans (hb1.mono below_2.size); have m1 := ((hM.below below_2)).below hb1; have T1 := ((hT.below below_2)).below hb1; have P1 := ((blk_a1)).below hb1; have R1 := ((blk_a2)).below hb1; obtain ⟨cP0_1, cP1_1, cP2_1, fP0_1, fP1_1, fP2_1, sP_1⟩ := P1.open3; obtain ⟨cR0_1, cR1_1, cR2_1, fR0_1, fR1_1, fR2_1, sR_1⟩ := R1.open3; obtain ⟨as1, ks1, rfl⟩ := s1.rnone)
      | fail)
    obtain ⟨q0, q1, q2, -⟩ := (R1.set3 (.bool false) (.slice none 0 0) (.int .i64 0)).open3
    refine bodyPost_ret (v := .agg #[.bool false, .slice none 0 0, .int .i64 0]) (by simp [results, Tryd.results75, go_sem, q0, q1, q2]) rfl ⟨_, rfl, ⟨_, rfl, RdN.nil0 _⟩, ?_⟩
    exact below_set (below_set (below_set B1 (by omega) _) (by omega) _) (by omega) _
  · have hsn : digs BB M ≠ [] := fun e => h0 ((digs_nil_iff BB_two _).1 e)
    have hsb : (((digs BB M).length : Int) == 0) = false := beq_false_of_ne (by have := List.length_pos_iff.2 hsn; omega)
    rw [bareD_pos h0]
    have hl := low2_lt h0
    generalize hk : low2 M = k at *
    generalize hO : M / 2 ^ k = O at *
    have ek := Lib.hid hk; have eO := Lib.hid hO
    have hkM : k ≤ 9223372036854775807 := by omega
    obtain ⟨c1, c2⟩ := cutE_range E
    generalize hc : cutE E = c at *
    have HC := Lib.hid (fun w => cut_n (w := w) (e := E))
    rw [hc] at HC
    clear hk hO hc
    go_enter Tryd.func75, Tryd.ntmps75
    go_wp2_with
    (first
      | (go_at_call 44; (with_reducible refine (bare_n (hM.below below_2)).mono ?_); rintro e w1 ⟨vs1, rfl, s1, hb1⟩; have B1 := below_2.trans (hb1.mono below_2.size); have m1 := ((hM.below below_2)).below hb1; have T1 := ((hT.below below_2)).below hb1; have P1 := ((blk_a1)).below hb1; have R1 := ((blk_a2)).below hb1; obtain ⟨cP0_1, cP1_1, cP2_1, fP0_1, fP1_1, fP2_1, sP_1⟩ := P1.open3; obtain ⟨cR0_1, cR1_1, cR2_1, fR0_1, fR1_1, fR2_1, sR_1⟩ := R1.open3; obtain ⟨as1, ks1, rfl, -⟩ := s1.view; try simp only [List.length_nil] at s1)
      | (go_at_call 79; (with_reducible refine (low_n (s1.num sM) T1 h0 ek.out).mono ?_); rintro e w2 ⟨rfl, rfl⟩)
      | (go_at_call 62; (with_reducible refine (shr_n (s1.num sM) T1 eO.out hkM).mono ?_); rintro e w3 ⟨vq3, rfl, q3, hb3⟩; have B3 := B1.trans (hb3.mono B1.size); have m3 := m1.below hb3; have T3 := T1.below hb3; have P3 := P1.below hb3; have R3 := R1.below hb3; have s3 := s1.below hb3; clear m1 T1 P1 R1 s1; obtain ⟨cP0_3, cP1_3, cP2_3, fP0_3, fP1_3, fP2_3, sP_3⟩ := P3.open3; obtain ⟨cR0_3, cR1_3, cR2_3, fR0_3, fR1_3, fR2_3, sR_3⟩ := R3.open3; obtain ⟨aq3, kq3, rfl, -⟩ := q3.view; try simp only [List.length_nil] at q3)
      | fail)
    have hadd : IntKind.i64.wrap (c + (k : Int)) = c + (k : Int) := by rw [IntKind.wrap_i64]; omega
    go_still_tail 8, (by kernel_rfl)
    still_call (HC.out _)
    repeat still_step
    refine wpStill_nil ?_
    change wpList _ _ _ _ _ w3.drew
    have RD : Blk w3.drew _ _ := R3.below (below_drewN (Below.refl _ _) 1)
    have BD : Below w.heap.size w w3.drew := below_drewN B3 1
    have QD : RdN w3.drew _ _ := q3.below (below_drewN (Below.refl _ _) 1)
    clear cP0_3 cP1_3 cP2_3 fP0_3 fP1_3 fP2_3 sP_3 cR0_3 cR1_3 cR2_3 fR0_3 fR1_3 fR2_3 sR_3 P3 R3 B3 q3 m3 T3
    generalize w3.drew = w4 at *
    obtain ⟨cR0, cR1, cR2, fR0, fR1, fR2, sR⟩ := RD.open3
    go_wp2
    obtain ⟨q0, q1, q2, -⟩ := (RD.set3 (.bool neg) (.slice aq3 (digs BB O).length kq3) (.int .i64 (c + (k : Int)))).open3
    refine bodyPost_ret (v := .agg #[.bool neg, .slice aq3 (digs BB O).length kq3, .int .i64 (c + (k : Int))]) ?_ rfl ?_
    · simp [results, Tryd.results75, go_sem, q0, q1, q2]
    · exact ⟨_, rfl, ⟨_, rfl, QD.set3 RD dcells _ _ _⟩, below_set (below_set (below_set BD (by omega) _) (by omega) _) (by omega) _⟩
end Go.Proofs.YtecgimdgmilcbaaDoor
