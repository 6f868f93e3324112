/- ratio.size, under, Fits, Pow, power by their contracts. Conditions: the number is short; math/bits' table stands in its variable. -/
import Derived.Test.YtflkemcoomgoiaaDoorDyC
import Derived.Deep.RegionHeld3
import Derived.Deep.CutBlock
import Derived.Test.YtflkemcoomgoiaaDoorRefC
import Derived.StillTailTactics
namespace Go.Proofs.YtflkemcoomgoiaaDoor
set_option maxRecDepth 100000
open Go.RowKit Go.ChangeShapes Go.WideShapes

theorem below_right {w w' : World} (h : Below w.heap.size w w') (o : Obj) : Below w.heap.size w (w'.alloc o) := h.alloc h.size o

end Go.Proofs.YtflkemcoomgoiaaDoor

/- ratio.power, multiplied by their contracts. Conditions: the numbers are short; math/bits' table stands in its variable. -/
namespace Go.Proofs.YtflkemcoomgoiaaDoor
set_option maxRecDepth 100000
open Go.RowKit Go.ChangeShapes Go.WideShapes

theorem one64 (l : List Nat) : ∀ u ∈ l.map L64, u.oneCell' = true := by
  intro u hu
  obtain ⟨x, -, rfl⟩ := List.mem_map.1 hu
  rfl

end Go.Proofs.YtflkemcoomgoiaaDoor

/- ratio.against by its contract. Conditions: the numbers are short; math/bits' table stands in its variable. -/
namespace Go.Proofs.YtflkemcoomgoiaaDoor
set_option maxRecDepth 100000
open Go.RowKit Go.ChangeShapes Go.WideShapes

/-- One against a product, where the tops tell. -/
theorem against_tops {A B : Nat} {Ea Eb : Int} (hA : A ≠ 0) (hB : B ≠ 0) :
    (0 < topD ⟨false, A, Ea⟩ + topD ⟨false, B, Eb⟩ → cmpM ⟨false, 1, 0⟩ ⟨false, A * B, Ea + Eb⟩ = -1) ∧ (topD ⟨false, A, Ea⟩ + topD ⟨false, B, Eb⟩ < -1 → cmpM ⟨false, 1, 0⟩ ⟨false, A * B, Ea + Eb⟩ = 1) := by
  have h1 := bitN_mul_le A B
  have h2 := bitN_mul_ge hA hB
  have hAB : A * B ≠ 0 := Nat.mul_ne_zero hA hB
  have pA := bitN_pos hA; have pB := bitN_pos hB
  unfold topD
  simp only
  refine ⟨fun h => ?_, fun h => ?_⟩
  · rw [cmpM_tops (a := ⟨false, 1, 0⟩) (b := ⟨false, A * B, Ea + Eb⟩) (by simp) hAB (by simp only [bitN_one]; omega)]
    simp only [bitN_one]
    unfold cmpI
    rw [if_pos (by omega)]
  · rw [cmpM_tops (a := ⟨false, 1, 0⟩) (b := ⟨false, A * B, Ea + Eb⟩) (by simp) hAB (by simp only [bitN_one]; omega)]
    simp only [bitN_one]
    unfold cmpI
    rw [if_neg (by omega), if_pos (by omega)]
theorem bareD_odd {neg : Bool} {M : Nat} {E : Int} (h : M % 2 = 1) (h1 : -2147483648 ≤ E) (h2 : E ≤ 2147483648) : bareD ⟨neg, M, E⟩ = ⟨neg, M, E⟩ := by
  rw [bareD_pos (show (⟨neg, M, E⟩ : Dn).m ≠ 0 by simp only; omega)]
  simp only [low2_odd h, Nat.pow_zero, Nat.div_one]
  unfold cutE
  congr 1
  omega

end Go.Proofs.YtflkemcoomgoiaaDoor

/- ratio.Cmp by its contract. Conditions: the numbers are short; math/bits' table stands in its variable. -/
namespace Go.Proofs.YtflkemcoomgoiaaDoor
set_option maxRecDepth 100000
open Go.RowKit Go.ChangeShapes Go.WideShapes

theorem odd_pow {a : Nat} (h : a % 2 = 1) : ∀ k, a ^ k % 2 = 1
  | 0 => by rw [Nat.pow_zero]
  | k + 1 => by rw [Nat.pow_succ, Nat.mul_mod, odd_pow h k, h]


end Go.Proofs.YtflkemcoomgoiaaDoor

/- What chapter 10's laws share: alive(). Conditions: math/bits' table stands in its variable. -/
namespace Go.Proofs.YtflkemcoomgoiaaDoor
set_option maxRecDepth 100000
open Go.RowKit Go.ChangeShapes Go.WideShapes

theorem bare_2 : bareD ⟨false, 2, 0⟩ = ⟨false, 1, 1⟩ := rfl
theorem bare_1 : bareD ⟨false, 1, 1⟩ = ⟨false, 1, 1⟩ := rfl
theorem bare_10 : bareD ⟨false, 1, 0⟩ = ⟨false, 1, 0⟩ := rfl
theorem bare_0 : bareD ⟨false, 0, 0⟩ = ⟨false, 0, 0⟩ := rfl
theorem bare_1000 : bareD ⟨false, 1000, 0⟩ = ⟨false, 125, 3⟩ := rfl
theorem bare_125 : bareD ⟨false, 125, 3⟩ = ⟨false, 125, 3⟩ := rfl
theorem alive_cmp : cmpM ⟨false, 1, 10⟩ ⟨false, 125, 3⟩ = 1 := by decide

end Go.Proofs.YtflkemcoomgoiaaDoor

/- Chapter 10's own size, bits, fits; planimeterref05.Top. Conditions: the numbers are short. -/
namespace Go.Proofs.YtflkemcoomgoiaaDoor
set_option maxRecDepth 100000
open Go.RowKit Go.ChangeShapes Go.WideShapes

/-- A number's size, up to 100000. -/
def lsize (n : Int) : Nat := min n.natAbs 100000
set_option maxHeartbeats 800000 in
theorem RTop_n {w : World} {u : Value} {neg : Bool} {M : Nat} {E : Int} (h : RdD w u (digs DD M)) (sM : bitN M ≤ 200000) (h1 : -4294967296 ≤ E) (h2 : E ≤ 4294967296) :
    Calls Tryd.prog 24 #[.agg #[.bool neg, u, .int .i64 E]] w (fun e w' => e = .returned (.int .i64 (topD ⟨neg, M, E⟩)) ∧ Below w.heap.size w w') := by
  obtain ⟨a, n, k, rfl⟩ := h.slice
  have sM4 : bitN M ≤ 400000 := by omega
  unfold topD
  simp only
  obtain ⟨b, hb⟩ : ∃ b, bitN M = b := ⟨_, rfl⟩
  have eb := Lib.hid hb
  rw [hb]
  have hw1 : IntKind.i64.wrap ((b : Int) - 1) = (b : Int) - 1 := by rw [IntKind.wrap_i64]; omega
  have hw2 : IntKind.i64.wrap ((b : Int) - 1 + E) = (b : Int) - 1 + E := by rw [IntKind.wrap_i64]; omega
  clear hb
  go_enter Tryd.func24, Tryd.ntmps24
  go_wp2_with fail
  have hA : Below w.heap.size w (w.alloc (.cells #[.bool neg, .slice a n k, .int .i64 E] 31)) := below_alloc _ _
  have hX := h.below hA
  have PX : Blk (w.alloc (.cells #[.bool neg, .slice a n k, .int .i64 E] 31)) w.heap.size #[.bool neg, .slice a n k, .int .i64 E] := blk_new
  generalize w.alloc (.cells #[.bool neg, .slice a n k, .int .i64 E] 31) = w1 at *
  obtain ⟨cP0, cP1, cP2, fP0, fP1, fP2, sP⟩ := PX.open3
  have hD : RdD w1.drew _ _ := hX.below (below_drewN (Below.refl _ _) 1)
  have HB := Lib.hid (rbits_n hD eb.out sM4)
  go_still_tail 7, (by kernel_rfl)
  still_call HB.out
  repeat still_step
  refine wpStill_nil ?_
  change wpList _ _ _ _ _ w1.drew
  have BD : Below w.heap.size w w1.drew := below_drewN hA 1
  generalize w1.drew = w2 at *
  go_wp2
  go_ret
  exact ⟨rfl, BD⟩

end Go.Proofs.YtflkemcoomgoiaaDoor
