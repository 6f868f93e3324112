/- What the tied cards of a seat share whose rows list math/bits' table: the table off the row's condition, a world for the witness. Conditions: none. -/
import Derived.Test.YtflkemcoomgoiaaDoorQuoB
import Derived.Test.YtflkemcoomgoiaaDoorRows
import Derived.Lib.LaidTab
import Derived.ProofKit
namespace Go.Proofs.YtflkemcoomgoiaaDoor
set_option maxRecDepth 100000
open Go.RowKit Go.ChangeShapes Go.WideShapes

theorem gTab : Tryd.prog.globalNamed "math/bits.deBruijn64tab" = some 0 := by kernel_rfl
theorem gTabType : (Tryd.prog.globals[0]?).map (·.type) = some 145 := by kernel_rfl
theorem cellsTab : Tryd.prog.cellsOf 145 = 64 := by kernel_rfl
theorem cellsU8 : Tryd.prog.cellsOf 5 = 1 := by kernel_rfl

/-- The table as the rows list it. -/
def TabLaid : List (String × DataW Unit) := [("math/bits.deBruijn64tab", Rows.laid_math_bits_deBruijn64tab)]
theorem tabLaid_eq : TabLaid = [("math/bits.deBruijn64tab", Lib.tabData .u8 (Lib.deBruijn64tab.map Int.ofNat))] := rfl

/-- What the rows' condition gives a walk. -/
theorem tab_of_laid {W : World} (h : laidMet Tryd.prog TabLaid W) : Tab W := by
  rw [tabLaid_eq] at h
  have ht := Lib.tabIs_of_head gTab gTabType Tryd.underlying145 Tryd.underlying5 cellsU8 cellsTab h
  have hat : TabAt 0 Lib.deBruijn64tab W := fun j hj => by
    have h := ht.cell gTab j (by rw [List.length_map]; exact hj)
    rw [h]
    have e : (Lib.deBruijn64tab.map Int.ofNat).getD j 0 = ((Lib.deBruijn64tab.getD j 0 : Nat) : Int) := by
      rw [List.getD_eq_getElem?_getD, List.getElem?_map, List.getD_eq_getElem?_getD, List.getElem?_eq_getElem hj]; rfl
    rw [e]
  exact ⟨hat, World.block_lt_of_cell? W _ (hat 0 (by decide))⟩

/-- A world for the witness: the settled one, the table's variable holding what its initialiser lays. -/
noncomputable def laidWorld (os : Os) : World :=
  { World.holding Tryd.prog os ⟨#[], #[], []⟩ with heap := (World.holding Tryd.prog os ⟨#[], #[], []⟩).heap.modify 0 fun
      | .cells _ t frozen => .cells (Lib.deBruijn64tab.map fun (x : Nat) => Value.int .u8 (x : Int)).toArray t frozen
      | o => o }
end Go.Proofs.YtflkemcoomgoiaaDoor
