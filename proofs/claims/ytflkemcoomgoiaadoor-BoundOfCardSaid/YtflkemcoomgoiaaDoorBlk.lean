/- Blocks of three cells under whatever is laid and stored: for regions that draw and make their own structs (token CLOSE of pre.py). Conditions: none. -/
import Derived.Test.YtflkemcoomgoiaaDoorDy5
namespace Go.Proofs.YtflkemcoomgoiaaDoor
set_option maxRecDepth 100000
open Go.RowKit Go.ChangeShapes Go.WideShapes

theorem cells3 {w : World} {b : Nat} {x y z : Value} (h : Blk w b #[x, y, z]) : w.cell? ⟨b, 0, none⟩ = some x ∧ w.cell? ⟨b, 1, none⟩ = some y ∧ w.cell? ⟨b, 2, none⟩ = some z := ⟨h.open3.1, h.open3.2.1, h.open3.2.2.1⟩
theorem size_alloc {w : World} {o : Obj} : (w.alloc o).heap.size = w.heap.size + 1 := by simp
theorem Blk.next {w : World} {b : Nat} {c : Array Value} {o : Obj} (h : Blk w b c) : Blk (w.alloc o) b c := h.below (below_alloc _ _)
theorem Blk.set3z {w : World} {b : Nat} (h : Blk w b #[.bool false, .slice none 0 0, .int .i64 0]) (x' y' z' : Value) : Blk (((w.setCell ⟨b, 0, none⟩ x').setCell ⟨b, 1, none⟩ y').setCell ⟨b, 2, none⟩ z') b #[x', y', z'] := h.set3 _ _ _
theorem bel_trans {D W u : World} (h : Below D.heap.size D W) (hb : Below W.heap.size W u) : Below D.heap.size D u := h.trans (hb.mono h.size)
theorem size_drew {w : World} : w.drew.heap.size = w.heap.size := rfl
theorem Blk.dr {w : World} {b : Nat} {c : Array Value} (h : Blk w b c) : Blk w.drew b c := h.below (below_drewN (Below.refl _ _) 1)
theorem bel_dr {D W : World} (h : Below D.heap.size D W) : Below D.heap.size D W.drew := below_drewN h 1
theorem Blk.otherOf {w : World} {b b' : Nat} {c c' : Array Value} (h : Blk w b c) (_ : Blk w b' c') (hne : b ≠ b') (x y z : Value) : Blk (((w.setCell ⟨b', 0, none⟩ x).setCell ⟨b', 1, none⟩ y).setCell ⟨b', 2, none⟩ z) b c := h.other3 hne x y z
theorem bel_next {D W : World} {o : Obj} (h : Below D.heap.size D W) : Below D.heap.size D (W.alloc o) := h.alloc h.size o
theorem bel_set3 {D W : World} (h : Below D.heap.size D W) {b : Nat} (hb : D.heap.size ≤ b) (x y z : Value) : Below D.heap.size D (((W.setCell ⟨b, 0, none⟩ x).setCell ⟨b, 1, none⟩ y).setCell ⟨b, 2, none⟩ z) := below_set3b h hb x y z
theorem RdN.set3z {w : World} {v : Value} {l : List Nat} {b : Nat} (h : RdN w v l) (hB : Blk w b #[.bool false, .slice none 0 0, .int .i64 0]) (x y z : Value) :
    RdN (((w.setCell ⟨b, 0, none⟩ x).setCell ⟨b, 1, none⟩ y).setCell ⟨b, 2, none⟩ z) v l := h.set3 hB dcells _ _ _
end Go.Proofs.YtflkemcoomgoiaaDoor
