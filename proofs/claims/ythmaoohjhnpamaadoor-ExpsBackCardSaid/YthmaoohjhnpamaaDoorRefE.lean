/- planimeterref05.Sign, Add by their contracts. Conditions: the numbers are short. -/
import Derived.Test.YthmaoohjhnpamaaDoorRatA
import Derived.Test.YthmaoohjhnpamaaDoorDyC
import Derived.Test.YthmaoohjhnpamaaDoorRefC
import Derived.Test.YthmaoohjhnpamaaDoorRefB
import Derived.Deep.RegionHeld3
import Derived.Deep.CutBlock
namespace Go.Proofs.YthmaoohjhnpamaaDoor
set_option maxRecDepth 100000
open Go.RowKit Go.ChangeShapes Go.WideShapes

end Go.Proofs.YthmaoohjhnpamaaDoor

/- planimeterref05.Cmp by its contract. Conditions: the numbers are short. -/
namespace Go.Proofs.YthmaoohjhnpamaaDoor
set_option maxRecDepth 100000
open Go.RowKit Go.ChangeShapes Go.WideShapes

theorem RdD.set1 {w : World} {v : Value} {l : List Nat} {b : Nat} {c : Array Value} (h : RdD w v l) (hB : Blk w b c) (hc : ∀ x ∈ c.toList, ∀ n : Nat, x ≠ D32 n) (x : Value) : RdD (w.setCell ⟨b, 0, none⟩ x) v l := by
  have ha : Rd (fun g => g ≠ b) w v (l.map D32) := by
    obtain ⟨a, k, h1, h2, h3, h4, h5⟩ := h
    obtain ⟨hb, T, hh⟩ := hB
    refine ⟨a, k, h1, h2, h3, h4, fun j u hj => ?_⟩
    obtain ⟨g, off, e1, _, e3⟩ := h5 j u hj
    refine ⟨g, off, e1, fun e => ?_, e3⟩
    subst e
    rw [World.cell?, hh] at e3
    obtain ⟨n, -, rfl⟩ := List.mem_map.1 (List.mem_of_getElem? hj)
    have e4 : c[off + j]? = some (D32 n) := by simpa using e3
    exact hc _ (by rw [← Array.getElem?_toList] at e4; exact List.mem_of_getElem? e4) n rfl
  have h2 := ha.keep (S := fun g => g = b) ((Fr.refl (fun g => g = b) w).setCell (p := ⟨b, 0, none⟩) rfl x) (fun _ h => h)
  exact h2.mono (fun _ _ _ => trivial)

/-- The sign of the difference is the order. -/
theorem sign_diff {neg n3 : Bool} {X Y M3 : Nat} {low : Int} (h : addR neg (!neg) X Y = (n3, M3)) : signD ⟨n3, M3, low⟩ = (if neg then -1 else 1) * cmpN X Y := by
  unfold addR at h
  rw [if_neg (by cases neg <;> simp)] at h
  rcases Nat.lt_trichotomy X Y with h1 | h1 | h1
  · rw [if_neg (by omega)] at h
    injection h with e1 e2
    subst e1 e2
    unfold signD
    rw [cmpN_lt h1, if_neg (show Y - X ≠ 0 by omega)]
    cases neg <;> rfl
  · subst h1
    rw [if_pos (Nat.le_refl _)] at h
    injection h with e1 e2
    subst e1 e2
    unfold signD
    rw [cmpN_eq, if_pos (show X - X = 0 by omega), Int.mul_zero]
  · rw [if_pos (by omega)] at h
    injection h with e1 e2
    subst e1 e2
    unfold signD
    rw [cmpN_gt h1, if_neg (show X - Y ≠ 0 by omega), Int.mul_one]

end Go.Proofs.YthmaoohjhnpamaaDoor
