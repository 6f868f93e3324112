/- Digits under whatever is laid and stored. Conditions: none. -/
import Derived.Test.YtflkemcoomgoiaaDoorBlk
import Derived.Test.YtflkemcoomgoiaaDoorRefDy1
namespace Go.Proofs.YtflkemcoomgoiaaDoor
set_option maxRecDepth 100000
theorem RdD.set3z {w : World} {v : Value} {l : List Nat} {b : Nat} (h : RdD w v l) (hB : Blk w b #[.bool false, .slice none 0 0, .int .i64 0]) (x y z : Value) :
    RdD (((w.setCell ⟨b, 0, none⟩ x).setCell ⟨b, 1, none⟩ y).setCell ⟨b, 2, none⟩ z) v l := h.set3 hB dcells32 _ _ _
end Go.Proofs.YtflkemcoomgoiaaDoor
