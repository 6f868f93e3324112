/- Blocks of six cells: two dyads side by side. Conditions: none. -/
import Derived.Test.YtecgimdgmilcbaaDoorDy1
namespace Go.Proofs.YtecgimdgmilcbaaDoor
set_option maxRecDepth 100000
open Go.RowKit Go.ChangeShapes Go.WideShapes
set_option linter.unusedVariables false

theorem Blk.open6 {w : World} {b : Nat} {x0 x1 x2 x3 x4 x5 : Value} (h : Blk w b #[x0, x1, x2, x3, x4, x5]) : w.cell? ⟨b, 0, none⟩ = some x0 ∧ w.cell? ⟨b, 1, none⟩ = some x1 ∧ w.cell? ⟨b, 2, none⟩ = some x2 ∧ w.cell? ⟨b, 3, none⟩ = some x3 ∧ w.cell? ⟨b, 4, none⟩ = some x4 ∧ w.cell? ⟨b, 5, none⟩ = some x5 ∧
    w.frozen? ⟨b, 0, none⟩ = false ∧ w.frozen? ⟨b, 1, none⟩ = false ∧ w.frozen? ⟨b, 2, none⟩ = false ∧ w.frozen? ⟨b, 3, none⟩ = false ∧ w.frozen? ⟨b, 4, none⟩ = false ∧ w.frozen? ⟨b, 5, none⟩ = false ∧ b < w.heap.size := by
  obtain ⟨h1, T, h2⟩ := h
  exact ⟨cell_at h2 rfl, cell_at h2 rfl, cell_at h2 rfl, cell_at h2 rfl, cell_at h2 rfl, cell_at h2 rfl, free_at h2, free_at h2, free_at h2, free_at h2, free_at h2, free_at h2, h1⟩
theorem Blk.set6 {w : World} {b : Nat} {x0 x1 x2 x3 x4 x5 : Value} (h : Blk w b #[x0, x1, x2, x3, x4, x5]) (y0 y1 y2 y3 y4 y5 : Value) : Blk ((((((w.setCell ⟨b, 0, none⟩ y0).setCell ⟨b, 1, none⟩ y1).setCell ⟨b, 2, none⟩ y2).setCell ⟨b, 3, none⟩ y3).setCell ⟨b, 4, none⟩ y4).setCell ⟨b, 5, none⟩ y5) b #[y0, y1, y2, y3, y4, y5] := by
  obtain ⟨h1, T, h2⟩ := h
  exact ⟨by simpa [World.setCell] using h1, T, heap_setC (heap_setC (heap_setC (heap_setC (heap_setC (heap_setC h2 y0) y1) y2) y3) y4) y5⟩
theorem Blk.other6 {w : World} {b b' : Nat} {c : Array Value} (h : Blk w b c) (hne : b ≠ b') (y0 y1 y2 y3 y4 y5 : Value) : Blk ((((((w.setCell ⟨b', 0, none⟩ y0).setCell ⟨b', 1, none⟩ y1).setCell ⟨b', 2, none⟩ y2).setCell ⟨b', 3, none⟩ y3).setCell ⟨b', 4, none⟩ y4).setCell ⟨b', 5, none⟩ y5) b c := by
  obtain ⟨h1, T, h2⟩ := h
  exact ⟨by simpa [World.setCell] using h1, T, heap_setO (heap_setO (heap_setO (heap_setO (heap_setO (heap_setO h2 y0 hne) y1 hne) y2 hne) y3 hne) y4 hne) y5 hne⟩
theorem RdN.set6 {w : World} {v : Value} {l : List Nat} {b : Nat} {c : Array Value} (h : RdN w v l) (hB : Blk w b c) (hc : ∀ x ∈ c.toList, ∀ n : Nat, x ≠ L64 n) (y0 y1 y2 y3 y4 y5 : Value) :
    RdN ((((((w.setCell ⟨b, 0, none⟩ y0).setCell ⟨b, 1, none⟩ y1).setCell ⟨b, 2, none⟩ y2).setCell ⟨b, 3, none⟩ y3).setCell ⟨b, 4, none⟩ y4).setCell ⟨b, 5, none⟩ y5) v l := by
  have h2 := (h.away hB hc).keep (S := fun g => g = b) (((((((Fr.refl (fun g => g = b) w).setCell (p := ⟨b, 0, none⟩) rfl y0).setCell (p := ⟨b, 1, none⟩) rfl y1).setCell (p := ⟨b, 2, none⟩) rfl y2).setCell (p := ⟨b, 3, none⟩) rfl y3).setCell (p := ⟨b, 4, none⟩) rfl y4).setCell (p := ⟨b, 5, none⟩) rfl y5) (fun _ h => h)
  exact h2.mono (fun _ _ _ => trivial)
theorem dcells6 {p q : Bool} {a c : Option Addr} {n k m j : Nat} {e f : Int} : ∀ x ∈ (#[.bool p, .slice a n k, .int .i64 e, .bool q, .slice c m j, .int .i64 f] : Array Value).toList, ∀ i : Nat, x ≠ L64 i := by
  intro x hx i
  simp at hx
  rcases hx with rfl | rfl | rfl | rfl | rfl | rfl <;> simp [L64]
theorem below_set6 {w w' : World} (h : Below w.heap.size w w') {b : Nat} (hb : w.heap.size ≤ b) (y0 y1 y2 y3 y4 y5 : Value) : Below w.heap.size w ((((((w'.setCell ⟨b, 0, none⟩ y0).setCell ⟨b, 1, none⟩ y1).setCell ⟨b, 2, none⟩ y2).setCell ⟨b, 3, none⟩ y3).setCell ⟨b, 4, none⟩ y4).setCell ⟨b, 5, none⟩ y5) :=
  below_set (below_set (below_set (below_set (below_set (below_set h hb y0) hb y1) hb y2) hb y3) hb y4) hb y5
end Go.Proofs.YtecgimdgmilcbaaDoor
