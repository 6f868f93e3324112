/- logs.Near by its contract. Conditions: the numbers are short; math/bits' table stands in its variable. -/
import Derived.Test.YtflkemcoomgoiaaDoorSerC
import Derived.Test.YtflkemcoomgoiaaDoorDyC
import Derived.Test.YtflkemcoomgoiaaDoorValG
namespace Go.Proofs.YtflkemcoomgoiaaDoor
set_option maxRecDepth 100000
open Go.RowKit Go.ChangeShapes Go.WideShapes
set_option linter.unusedVariables false

theorem results_tmp5 {fn : Func} {t u v x y : Tmp} (h : fn.results = #[.tmp t, .tmp u, .tmp v, .tmp x, .tmp y]) (tmps : Array Value) (P : Program) (w : World) :
    (results fn tmps).run P w = .ok (.tuple #[tmps.getD t undef, tmps.getD u undef, tmps.getD v undef, tmps.getD x undef, tmps.getD y undef]) w := by
  simp [results, h]
theorem bareD_nought {neg : Bool} {M : Nat} {E : Int} (h : M = 0) : bareD ⟨neg, M, E⟩ = ⟨false, 0, 0⟩ := bareD_zero h
theorem Top_zero {w : World} {v : Value} {neg : Bool} {E : Int} (h : Num w v 0) (hT : Tab w) (h1 : -9223372036854775808 ≤ E) (h2 : E ≤ 9223372036854775807) :
    Calls Tryd.prog 38 #[.agg #[.bool neg, v, .int .i64 E]] w (fun e w' => e = .returned (.tuple #[.int .i64 0, .bool false]) ∧ Below w.heap.size w w') := by
  obtain ⟨a, n, k, rfl⟩ := h.slice
  have HB := Lib.hid (fun w v (h : Num w v 0) (hT : Tab w) => bare_d (neg := neg) (E := E) h hT h1 h2 (bareD_nought rfl))
  have dz : (digs BB 0).length = 0 := by rw [digs_zero]; rfl
  go_enter Tryd.func38, Tryd.ntmps38
  go_wp2_with
  (first
    | (go_at_call 34; (with_reducible refine (HB.out _ _ (h.below (below_alloc _ _)) (hT.below (below_alloc _ _))).mono ?_); rintro e w1 ⟨vd1, rfl, d1, hb1⟩; have B1 := (below_alloc _ _).trans (hb1.mono (below_alloc _ _).size); have m1 := ((h.below (below_alloc _ _))).below hb1; have T1 := ((hT.below (below_alloc _ _))).below hb1; have P1 := ((blk_new)).below hb1; obtain ⟨cP0_1, cP1_1, cP2_1, fP0_1, fP1_1, fP2_1, sP_1⟩ := P1.open3; obtain ⟨ud1, rfl, d1⟩ := d1; obtain ⟨ad1, kd1, rfl, -⟩ := d1.view)
    | fail)
  go_ret2
  exact ⟨by simp, below_set3 B1 (Nat.le_refl _) _ _ _⟩

/-- What Near may be asked of. -/
def nearOk (d : Dn) : Bool := fitsE (bareD d).e && !(bareD d).neg && decide ((bareD d).m ≠ 0) && decide (bitN (bareD d).m ≤ 4000) && decide (-1048576 ≤ topD (bareD d)) && decide (topD (bareD d) ≤ 1048576)

end Go.Proofs.YtflkemcoomgoiaaDoor

/- logs.times, part.ends by their contracts. Conditions: the numbers are short; math/bits' table stands in its variable. -/
namespace Go.Proofs.YtflkemcoomgoiaaDoor
set_option maxRecDepth 100000
open Go.RowKit Go.ChangeShapes Go.WideShapes
set_option linter.unusedVariables false

theorem RdN.setj {w : World} {v : Value} {l : List Nat} {b : Nat} {c : Array Value} (h : RdN w v l) (hB : Blk w b c) (hc : ∀ x ∈ c.toList, ∀ n : Nat, x ≠ L64 n) (j : Nat) (x : Value) : RdN (w.setCell ⟨b, j, none⟩ x) v l := by
  have h2 := (h.away hB hc).keep (S := fun g => g = b) ((Fr.refl (fun g => g = b) w).setCell (p := ⟨b, j, none⟩) rfl x) (fun _ h => h)
  exact h2.mono (fun _ _ _ => trivial)
theorem Num.setj {w : World} {v : Value} {n b : Nat} {c : Array Value} (h : Num w v n) (hB : Blk w b c) (hc : ∀ x ∈ c.toList, ∀ n : Nat, x ≠ L64 n) (j : Nat) (x : Value) : Num (w.setCell ⟨b, j, none⟩ x) v n := by
  obtain ⟨l, h1, h2⟩ := h; exact ⟨l, h1.setj hB hc j x, h2⟩
theorem Tab.setj {w : World} {b : Nat} (h : Tab w) (hb : 0 ≠ b) (j : Nat) (x : Value) : Tab (w.setCell ⟨b, j, none⟩ x) :=
  h.fr ((Fr.refl (fun g => g = b) w).setCell (p := ⟨b, j, none⟩) rfl x) hb
theorem Blk.otherj {w : World} {b b' : Nat} {c : Array Value} (h : Blk w b c) (hne : b ≠ b') (j : Nat) (x : Value) : Blk (w.setCell ⟨b', j, none⟩ x) b c := by
  obtain ⟨h1, T, h2⟩ := h
  exact ⟨by simpa [World.setCell] using h1, T, heap_setO h2 x hne⟩
theorem Blk.p0 {w : World} {b : Nat} {x y z : Value} (h : Blk w b #[x, y, z]) (x' : Value) : Blk (w.setCell ⟨b, 0, none⟩ x') b #[x', y, z] := by
  obtain ⟨h1, T, h2⟩ := h
  exact ⟨by simpa [World.setCell] using h1, T, heap_setC h2 x'⟩
theorem Blk.p1 {w : World} {b : Nat} {x y z : Value} (h : Blk w b #[x, y, z]) (x' : Value) : Blk (w.setCell ⟨b, 1, none⟩ x') b #[x, x', z] := by
  obtain ⟨h1, T, h2⟩ := h
  exact ⟨by simpa [World.setCell] using h1, T, heap_setC h2 x'⟩
theorem Blk.p2 {w : World} {b : Nat} {x y z : Value} (h : Blk w b #[x, y, z]) (x' : Value) : Blk (w.setCell ⟨b, 2, none⟩ x') b #[x, y, x'] := by
  obtain ⟨h1, T, h2⟩ := h
  exact ⟨by simpa [World.setCell] using h1, T, heap_setC h2 x'⟩
/-- A part's cells are no limbs. -/
theorem tcells {a c : Option Addr} {n k m j : Nat} {p : Bool} : ∀ x ∈ (#[.slice a n k, .slice c m j, .bool p] : Array Value).toList, ∀ i : Nat, x ≠ L64 i := by
  intro x hx i
  simp at hx
  rcases hx with rfl | rfl | rfl <;> simp [L64]

end Go.Proofs.YtflkemcoomgoiaaDoor
