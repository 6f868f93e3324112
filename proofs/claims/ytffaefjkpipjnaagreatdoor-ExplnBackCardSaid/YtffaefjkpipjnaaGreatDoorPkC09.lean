/- What the tied cards of a seat share whose rows list math/bits' table: the table off the row's condition, a world for the witness. Conditions: none. -/
import Derived.Test.YtffaefjkpipjnaaGreatDoorPkC08
import Derived.Test.YtffaefjkpipjnaaGreatDoorRows
import Derived.Lib.LaidTab
import Derived.ProofKit
namespace Go.Proofs.YtffaefjkpipjnaaGreatDoor
set_option linter.unusedVariables false
set_option linter.unusedSimpArgs false
set_option maxRecDepth 100000
open Go.RowKit Go.ChangeShapes Go.WideShapes
theorem gTab:Tryz.prog.globalNamed "math/bits.deBruijn64tab" =some 0:=by kernel_rfl
theorem gTabType:(Tryz.prog.globals[0]?).map (·.type)=some 191:=by kernel_rfl
theorem cellsTab:Tryz.prog.cellsOf 191=64:=by kernel_rfl
theorem cellsU8:Tryz.prog.cellsOf 5=1:=by kernel_rfl
def TabLaid:List (String×DataW Unit):=[("math/bits.deBruijn64tab",Rows.laid_math_bits_deBruijn64tab)]
theorem tabLaid_eq:TabLaid=[("math/bits.deBruijn64tab",Lib.tabData .u8 (Lib.deBruijn64tab.map Int.ofNat))]:=rfl
theorem tab_of_laid {W:World}(h:laidMet Tryz.prog TabLaid W):Tab W:=by
 rw[tabLaid_eq]at h
 have ht:=Lib.tabIs_of_head gTab gTabType Tryz.underlying191 Tryz.underlying5 cellsU8 cellsTab h
 have hat:TabAt 0 Lib.deBruijn64tab W:=fun j hj=>by
  have h:=ht.cell gTab j (by rw[List.length_map];exact hj)
  rw[h]
  have e:(Lib.deBruijn64tab.map Int.ofNat).getD j 0=((Lib.deBruijn64tab.getD j 0:Nat):Int):=by
   rw[List.getD_eq_getElem?_getD,List.getElem?_map,List.getD_eq_getElem?_getD,List.getElem?_eq_getElem hj];rfl
  rw[e]
 exact⟨hat,World.block_lt_of_cell? W _ (hat 0 (by decide))⟩
noncomputable def laidWorld (os:Os):World:=
 {World.holding Tryz.prog os ⟨#[],#[],[]⟩with heap:=(World.holding Tryz.prog os ⟨#[],#[],[]⟩).heap.modify 0 fun
   | .cells _ t frozen=> .cells (Lib.deBruijn64tab.map fun(x:Nat)=>Value.int .u8 (x:Int)).toArray t frozen
   |o=>o}
end Go.Proofs.YtffaefjkpipjnaaGreatDoor
