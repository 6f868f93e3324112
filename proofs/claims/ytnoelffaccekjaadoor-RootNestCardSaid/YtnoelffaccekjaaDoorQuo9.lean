/- nat.Shr by its contract. Conditions: the list is short, the limbs are limbs, math/bits' table stands in its variable. -/
import Derived.Test.YtnoelffaccekjaaDoorQuo8
namespace Go.Proofs.YtnoelffaccekjaaDoor
open Go.RowKit

theorem val_drop_any (B : Nat) (l : List Nat) (k : Nat) : val B (l.drop k) = l.getD k 0 + B * val B (l.drop (k + 1)) := by
  by_cases hk : k < l.length
  · exact val_drop_succ B l k hk
  · rw [List.drop_eq_nil_of_le (by omega), List.drop_eq_nil_of_le (by omega), List.getD_eq_getElem?_getD, List.getElem?_eq_none (by omega)]; simp

theorem val_div {B : Nat} (hB : 0 < B) {l : List Nat} (hd : Dig B l) (j : Nat) : val B l / B ^ j = val B (l.drop j) := by
  rw [val_take_drop' B l j]
  have h := val_lt (hd.take j)
  have h2 : B ^ (l.take j).length ≤ B ^ j := Nat.pow_le_pow_right hB (by rw [List.length_take]; omega)
  rw [Nat.add_mul_div_left _ _ (Nat.pow_pos hB), Nat.div_eq_of_lt (by omega), Nat.zero_add]

/-- One limb of a number that is shifted down. -/
theorem shr_limb {l : List Nat} (hd : Dig BB l) {n wh pt k : Nat} (hn : n = 64 * wh + pt) (hp : pt < 64) :
    val BB l / 2 ^ n / BB ^ k % BB = l.getD (k + wh) 0 / 2 ^ pt + l.getD (k + wh + 1) 0 * 2 ^ (64 - pt) % BB ∧ l.getD (k + wh) 0 / 2 ^ pt < 2 ^ (64 - pt) := by
  have hPR : 2 ^ pt * 2 ^ (64 - pt) = BB := by rw [← Nat.pow_add, show pt + (64 - pt) = 64 by omega, BB_pow]
  have hP : 0 < 2 ^ pt := Nat.pow_pos (by omega)
  have hR : 0 < 2 ^ (64 - pt) := Nat.pow_pos (by omega)
  have e1 : val BB l / 2 ^ n / BB ^ k = val BB l / BB ^ (k + wh) / 2 ^ pt := by
    rw [Nat.div_div_eq_div_mul, Nat.div_div_eq_div_mul, hn, BB_pow, ← Nat.pow_mul, ← Nat.pow_mul, ← Nat.pow_add, ← Nat.pow_add]
    congr 2; omega
  have hx := hd.getD BB_pos (k + wh)
  have hlt : l.getD (k + wh) 0 / 2 ^ pt < 2 ^ (64 - pt) := by
    rw [Nat.div_lt_iff_lt_mul hP, Nat.mul_comm, hPR]; exact hx
  refine ⟨?_, hlt⟩
  rw [e1, val_div BB_pos hd, val_drop_any, val_drop_any BB l (k + wh + 1)]
  generalize l.getD (k + wh) 0 = x at *
  generalize l.getD (k + wh + 1) 0 = y at *
  generalize val BB (l.drop (k + wh + 1 + 1)) = V
  have e2 : x + BB * (y + BB * V) = x + 2 ^ pt * (2 ^ (64 - pt) * y + BB * (2 ^ (64 - pt) * V)) := by
    rw [Nat.mul_add BB, Nat.mul_add (2 ^ pt), ← Nat.mul_assoc (2 ^ pt), hPR, Nat.mul_left_comm (2 ^ pt) BB, ← Nat.mul_assoc (2 ^ pt) (2 ^ (64 - pt)), hPR]
  rw [e2, Nat.add_mul_div_left _ _ hP, ← Nat.add_assoc, Nat.add_mul_mod_self_left]
  have hm : y * 2 ^ (64 - pt) % BB = 2 ^ (64 - pt) * (y % 2 ^ pt) := by rw [← hPR, Nat.mul_comm y, Nat.mul_comm (2 ^ pt), Nat.mul_mod_mul_left]
  have hm2 : 2 ^ (64 - pt) * (y % 2 ^ pt) + 2 ^ (64 - pt) ≤ BB := by
    have := Nat.mul_le_mul_left (2 ^ (64 - pt)) (show y % 2 ^ pt + 1 ≤ 2 ^ pt from Nat.mod_lt y hP)
    rw [Nat.mul_add, Nat.mul_comm (2 ^ (64 - pt)) (2 ^ pt), hPR] at this; omega
  rw [Nat.mul_comm (2 ^ (64 - pt)) y, Nat.add_mod, Nat.mod_eq_of_lt (show x / 2 ^ pt < BB by omega), hm, Nat.mod_eq_of_lt (by omega)]

/-- The loop's relation in Shr: k limbs are done. -/
structure ShrRel (w : World) (A m k : Nat) (X : List Nat) (wr : World) : Prop where
  le : k ≤ m
  len : X.length = m
  dig : Dig BB X
  sum : val BB (X.take k) = A % BB ^ k
  own : wr.ownsRow w.heap.size 33 1 (.slice (some ⟨w.heap.size, 0, none⟩) m m) m (X.map L64)
  below : Below w.heap.size w wr
theorem ShrRel.drewN {w wr : World} {X : List Nat} {A m k : Nat} (h : ShrRel w A m k X wr) (n : Nat) : ShrRel w A m k X (wr.drewN n) := ⟨h.le, h.len, h.dig, h.sum, h.own, below_drewN h.below n⟩
theorem ShrRel.step {w wr : World} {X : List Nat} {A m k x : Nat} (h : ShrRel w A m k X wr) (hk : k < m) (hx : x = A / BB ^ k % BB) : ShrRel w A m (k + 1) (X.set k x) (wr.setCell ⟨w.heap.size, k, none⟩ (L64 x)) :=
  ⟨hk, by rw [List.length_set]; exact h.len, h.dig.set _ (by rw [hx]; exact Nat.mod_lt _ BB_pos), by
    rw [val_set_take BB X _ _ (by rw [h.len]; exact hk), h.sum, Nat.mod_pow_succ, hx], by
    rw [List.map_set]; exact (h.own.stored k _).1, h.below.setCell (Nat.le_refl _) _⟩
theorem ShrRel.fin {w wr : World} {X : List Nat} {A m : Nat} (h : ShrRel w A m m X wr) (hA : A < BB ^ m) : strip X = digs BB A := by
  have := h.sum
  rw [← h.len, List.take_length, h.len, Nat.mod_eq_of_lt hA] at this
  rw [strip_eq BB_two h.dig, this]

theorem low_rest {A k n : Nat} (hA : A ≠ 0) (h : IsLow A k) : decide (k < n) = decide (A % 2 ^ n ≠ 0) := by
  rcases h with ⟨h, -⟩ | ⟨m, rfl⟩
  · exact absurd h hA
  · by_cases hk : k < n
    · rw [decide_eq_true hk, decide_eq_true]
      intro h0
      obtain ⟨j, rfl⟩ : ∃ j, n = k + 1 + j := ⟨n - k - 1, by omega⟩
      rw [Nat.pow_add, Nat.pow_succ, Nat.mul_assoc, Nat.mul_mod_mul_left] at h0
      have h1 : (2 * m + 1) % (2 * 2 ^ j) = 0 := by
        rcases Nat.mul_eq_zero.1 h0 with h2 | h2
        · exact absurd h2 (Nat.ne_of_gt (Nat.pow_pos (by omega)))
        · exact h2
      have h2 := Nat.mod_mod_of_dvd (2 * m + 1) (Nat.dvd_mul_right 2 (2 ^ j))
      rw [h1] at h2
      omega
    · rw [decide_eq_false hk, decide_eq_false]
      intro h0
      apply h0
      obtain ⟨j, rfl⟩ : ∃ j, k = n + j := ⟨k - n, by omega⟩
      rw [Nat.pow_add, Nat.mul_assoc]
      exact Nat.mul_mod_right _ _
end Go.Proofs.YtnoelffaccekjaaDoor
