/- quo.left by its contract. Conditions: the list is short, the limbs are limbs, the shift is less than a limb. -/
import Derived.Test.YtnoelffaccekjaaDoorQuo6
import Derived.Deep.RegionWith
namespace Go.Proofs.YtnoelffaccekjaaDoor
open Go.RowKit

/-- The loop's relation in left: k limbs are done. -/
structure LeftRel (w : World) (l : List Nat) (s k : Nat) (X : List Nat) (wr : World) : Prop where
  le : k ≤ l.length
  len : X.length = l.length + 1
  dig : Dig BB X
  low : X.getD k 0 < 2 ^ s
  sum : val BB (X.take (k + 1)) = val BB (l.take k) * 2 ^ s
  own : wr.ownsRow w.heap.size 33 1 (.slice (some ⟨w.heap.size, 0, none⟩) (l.length + 1) (l.length + 1)) (l.length + 1) (X.map L64)
  below : Below w.heap.size w wr
theorem LeftRel.drewN {w wr : World} {l X : List Nat} {s k : Nat} (h : LeftRel w l s k X wr) (n : Nat) : LeftRel w l s k X (wr.drewN n) := ⟨h.le, h.len, h.dig, h.low, h.sum, h.own, below_drewN h.below n⟩

theorem LeftRel.step {w wr : World} {l X : List Nat} {s k : Nat} (h : LeftRel w l s k X wr) (hs : s ≤ 63) (hl : Dig BB l) (hk : k < l.length) :
    LeftRel w l s (k + 1) ((X.set k (X.getD k 0 + l.getD k 0 * 2 ^ s % BB)).set (k + 1) (l.getD k 0 / 2 ^ (64 - s)))
      ((wr.setCell ⟨w.heap.size, k, none⟩ (L64 (X.getD k 0 + l.getD k 0 * 2 ^ s % BB))).setCell ⟨w.heap.size, k + 1, none⟩ (L64 (l.getD k 0 / 2 ^ (64 - s)))) := by
  have hx := hl.getD BB_pos k
  have hlen := h.len
  have hPR : 2 ^ s * 2 ^ (64 - s) = BB := by rw [← Nat.pow_add, show s + (64 - s) = 64 by omega, BB_pow]
  have hP : 0 < 2 ^ s := Nat.pow_pos (by omega)
  have hdiv : l.getD k 0 * 2 ^ s / BB = l.getD k 0 / 2 ^ (64 - s) := by rw [← hPR, Nat.mul_comm (2 ^ s)]; exact Nat.mul_div_mul_right _ _ hP
  have hmod : l.getD k 0 * 2 ^ s % BB + 2 ^ s ≤ BB := by
    rw [← hPR, Nat.mul_comm (2 ^ s), Nat.mul_mod_mul_right]
    have := Nat.mod_lt (l.getD k 0) (Nat.pow_pos (n := 64 - s) (show 0 < 2 by omega))
    have := Nat.mul_le_mul_right (2 ^ s) (show l.getD k 0 % 2 ^ (64 - s) + 1 ≤ 2 ^ (64 - s) from this)
    rw [Nat.add_mul] at this; omega
  have hc : l.getD k 0 / 2 ^ (64 - s) < 2 ^ s := by
    rw [Nat.div_lt_iff_lt_mul (Nat.pow_pos (by omega)), hPR]; exact hx
  have e := Nat.mod_add_div (l.getD k 0 * 2 ^ s) BB
  rw [hdiv] at e
  have hlow := h.low
  have hsum := h.sum
  rw [val_take_succ] at hsum
  generalize l.getD k 0 * 2 ^ s % BB = lo at *
  generalize l.getD k 0 / 2 ^ (64 - s) = hi at *
  generalize hxx : l.getD k 0 = x at *
  generalize X.getD k 0 = c at *
  have hd1 : Dig BB (X.set k (c + lo)) := h.dig.set _ (by omega)
  refine ⟨hk, by rw [List.length_set, List.length_set]; exact hlen, hd1.set _ (by have := Nat.le_of_mul_le_mul_right (a := 1) (b := 2 ^ (64 - s)) (c := 2 ^ s) (by rw [Nat.mul_comm (2 ^ (64 - s)), hPR]; omega) hP; omega), ?_, ?_, ?_, (h.below.setCell (Nat.le_refl _) _).setCell (Nat.le_refl _) _⟩
  · rw [List.getD_eq_getElem?_getD, List.getElem?_set_self (by rw [List.length_set]; omega)]; exact hc
  · rw [val_set_take BB _ _ _ (by rw [List.length_set]; omega), val_set_take BB X _ _ (by omega), val_take_succ BB l, hxx, Nat.pow_succ, Nat.add_mul]
    have e2 := congrArg (BB ^ k * ·) e
    simp only [Nat.mul_add] at e2
    rw [Nat.mul_add, Nat.mul_assoc (BB ^ k) BB, Nat.mul_assoc (BB ^ k) x]
    omega
  · rw [List.map_set, List.map_set]
    exact ((h.own.stored k _).1.stored (k + 1) _).1

theorem LeftRel.fin {w wr : World} {l X : List Nat} {s : Nat} (h : LeftRel w l s l.length X wr) : val BB X = val BB l * 2 ^ s := by
  have := h.sum
  rw [List.take_length, ← h.len, List.take_length] at this
  exact this
end Go.Proofs.YtnoelffaccekjaaDoor
