/- planimeterref05.Of by its contract. Conditions: the number is short. -/
import Derived.Test.YthmaoohjhnpamaaDoorRefShr
import Derived.Test.YthmaoohjhnpamaaDoorDyA
import Derived.Test.YthmaoohjhnpamaaDoorRefA
import Derived.Test.YthmaoohjhnpamaaDoorDyC
import Derived.Deep.RegionHeld3
import Derived.Deep.CutBlock
namespace Go.Proofs.YthmaoohjhnpamaaDoor
set_option maxRecDepth 100000
open Go.RowKit Go.ChangeShapes Go.WideShapes

theorem RdD.set3 {w : World} {v : Value} {l : List Nat} {b : Nat} {c : Array Value} (h : RdD w v l) (hB : Blk w b c) (hc : ∀ x ∈ c.toList, ∀ n : Nat, x ≠ D32 n) (x y z : Value) :
    RdD (((w.setCell ⟨b, 0, none⟩ x).setCell ⟨b, 1, none⟩ y).setCell ⟨b, 2, none⟩ z) v l := by
  have ha : Rd (fun g => g ≠ b) w v (l.map D32) := by
    obtain ⟨a, k, h1, h2, h3, h4, h5⟩ := h
    obtain ⟨hb, T, hh⟩ := hB
    refine ⟨a, k, h1, h2, h3, h4, fun j u hj => ?_⟩
    obtain ⟨g, off, e1, _, e3⟩ := h5 j u hj
    refine ⟨g, off, e1, fun e => ?_, e3⟩
    subst e
    rw [World.cell?, hh] at e3
    obtain ⟨n, -, rfl⟩ := List.mem_map.1 (List.mem_of_getElem? hj)
    have e4 : c[off + j]? = some (D32 n) := by simpa using e3
    exact hc _ (by rw [← Array.getElem?_toList] at e4; exact List.mem_of_getElem? e4) n rfl
  have h2 := ha.keep (S := fun g => g = b) ((((Fr.refl (fun g => g = b) w).setCell (p := ⟨b, 0, none⟩) rfl x).setCell (p := ⟨b, 1, none⟩) rfl y).setCell (p := ⟨b, 2, none⟩) rfl z) (fun _ h => h)
  exact h2.mono (fun _ _ _ => trivial)
theorem dcells32 {p : Bool} {a : Option Addr} {n k : Nat} {e : Int} : ∀ x ∈ (#[.bool p, .slice a n k, .int .i64 e] : Array Value).toList, ∀ m : Nat, x ≠ D32 m := by
  intro x hx m
  simp at hx
  rcases hx with rfl | rfl | rfl <;> simp [D32]

/-- Below its lowest bit a number has noughts alone. -/
theorem low_bits {A t : Nat} (h0 : A ≠ 0) : (t < low2 A → A / 2 ^ t % 2 = 0) ∧ A / 2 ^ low2 A % 2 = 1 := by
  obtain ⟨m, hm⟩ := low2_eq h0
  refine ⟨fun h => ?_, by rw [odd_eq hm]; omega⟩
  obtain ⟨d, hd⟩ : ∃ d, low2 A = t + 1 + d := ⟨low2 A - t - 1, by omega⟩
  have e : A = 2 ^ t * (2 * (2 ^ d * (2 * m + 1))) := by
    rw [hd] at hm
    rw [hm, Nat.pow_add, Nat.pow_succ]
    simp only [Nat.mul_assoc]
  rw [e, Nat.mul_div_cancel_left _ (Nat.pow_pos (by omega))]
  omega

end Go.Proofs.YthmaoohjhnpamaaDoor

/- planimeterref05.Fits, Top, Sign, Same, To by their contracts. Conditions: the numbers are short. -/
namespace Go.Proofs.YthmaoohjhnpamaaDoor
set_option maxRecDepth 100000
open Go.RowKit Go.ChangeShapes Go.WideShapes

theorem RdD.slice {w : World} {v : Value} {l : List Nat} (h : RdD w v l) : ∃ a, ∃ m k : Nat, v = .slice a m k := by
  obtain ⟨a, k, h2, -⟩ := h.view
  exact ⟨a, _, k, h2⟩

end Go.Proofs.YthmaoohjhnpamaaDoor

/- planimeterref05.To by its contract. Conditions: the number is short. -/
namespace Go.Proofs.YthmaoohjhnpamaaDoor
set_option maxRecDepth 100000
open Go.RowKit Go.ChangeShapes Go.WideShapes

end Go.Proofs.YthmaoohjhnpamaaDoor
