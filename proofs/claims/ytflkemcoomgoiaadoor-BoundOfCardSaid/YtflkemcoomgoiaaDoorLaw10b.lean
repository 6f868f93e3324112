/- Chapter 10's own size, bits, fits; planimeterref05.Top. Conditions: the numbers are short. -/
import Derived.Test.YtflkemcoomgoiaaDoorRefDy3
import Derived.Test.YtflkemcoomgoiaaDoorLaw10
import Derived.StillTailTactics
import Derived.Deep.RegionHeld3
namespace Go.Proofs.YtflkemcoomgoiaaDoor
set_option maxRecDepth 100000
open Go.RowKit Go.ChangeShapes Go.WideShapes

/-- A number's size, up to 100000. -/
def lsize (n : Int) : Nat := min n.natAbs 100000
set_option maxHeartbeats 800000 in
theorem RTop_n {w : World} {u : Value} {neg : Bool} {M : Nat} {E : Int} (h : RdD w u (digs DD M)) (sM : bitN M ≤ 200000) (h1 : -4294967296 ≤ E) (h2 : E ≤ 4294967296) :
    Calls Tryd.prog 24 #[.agg #[.bool neg, u, .int .i64 E]] w (fun e w' => e = .returned (.int .i64 (topD ⟨neg, M, E⟩)) ∧ Below w.heap.size w w') := by
  obtain ⟨a, n, k, rfl⟩ := h.slice
  have sM4 : bitN M ≤ 400000 := by omega
  unfold topD
  simp only
  obtain ⟨b, hb⟩ : ∃ b, bitN M = b := ⟨_, rfl⟩
  have eb := Lib.hid hb
  rw [hb]
  have hw1 : IntKind.i64.wrap ((b : Int) - 1) = (b : Int) - 1 := by rw [IntKind.wrap_i64]; omega
  have hw2 : IntKind.i64.wrap ((b : Int) - 1 + E) = (b : Int) - 1 + E := by rw [IntKind.wrap_i64]; omega
  clear hb
  go_enter Tryd.func24, Tryd.ntmps24
  go_wp2_with fail
  have hA : Below w.heap.size w (w.alloc (.cells #[.bool neg, .slice a n k, .int .i64 E] 31)) := below_alloc _ _
  have hX := h.below hA
  have PX : Blk (w.alloc (.cells #[.bool neg, .slice a n k, .int .i64 E] 31)) w.heap.size #[.bool neg, .slice a n k, .int .i64 E] := blk_new
  generalize w.alloc (.cells #[.bool neg, .slice a n k, .int .i64 E] 31) = w1 at *
  obtain ⟨cP0, cP1, cP2, fP0, fP1, fP2, sP⟩ := PX.open3
  have hD : RdD w1.drew _ _ := hX.below (below_drewN (Below.refl _ _) 1)
  have HB := Lib.hid (rbits_n hD eb.out sM4)
  go_still_tail 7, (by kernel_rfl)
  still_call HB.out
  repeat still_step
  refine wpStill_nil ?_
  change wpList _ _ _ _ _ w1.drew
  have BD : Below w.heap.size w w1.drew := below_drewN hA 1
  generalize w1.drew = w2 at *
  go_wp2
  go_ret
  exact ⟨rfl, BD⟩

end Go.Proofs.YtflkemcoomgoiaaDoor
