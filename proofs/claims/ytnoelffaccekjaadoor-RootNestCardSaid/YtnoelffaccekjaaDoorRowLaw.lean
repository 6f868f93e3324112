/- The plain law of prod.row: one place's work, and the sum over all. Conditions: limbs are below the base. -/
import Derived.Test.YtnoelffaccekjaaDoorVal
namespace Go.Proofs.YtnoelffaccekjaaDoor

theorem one_place {b x n cy o : Nat} (hb : 0 < b) (hx : x < b) (hn : n < b) (hc : cy < b) (ho : o < b) :
    x * n / b + (x * n % b + cy) / b < b ∧ x * n / b + (x * n % b + cy) / b + (o + (x * n % b + cy) % b) / b < b ∧
    (o + (x * n % b + cy) % b) % b + b * (x * n / b + (x * n % b + cy) / b + (o + (x * n % b + cy) % b) / b) = x * n + cy + o := by
  have e1 := Nat.mod_add_div (x * n) b
  have e2 := Nat.mod_add_div (x * n % b + cy) b
  have e3 := Nat.mod_add_div (o + (x * n % b + cy) % b) b
  have hm : x * n ≤ (b - 1) * (b - 1) := Nat.mul_le_mul (by omega) (by omega)
  have hmm : (b - 1) * (b - 1) + 2 * (b - 1) + 1 = b * b := by
    obtain ⟨p, rfl⟩ : ∃ p, b = p + 1 := ⟨b - 1, by omega⟩
    simp only [Nat.add_sub_cancel]
    simp only [Nat.add_mul, Nat.mul_add, Nat.one_mul, Nat.mul_one]; omega
  have e : (o + (x * n % b + cy) % b) % b + b * (x * n / b + (x * n % b + cy) / b + (o + (x * n % b + cy) % b) / b) = x * n + cy + o := by
    rw [Nat.mul_add, Nat.mul_add]; omega
  have hlt : b * (x * n / b + (x * n % b + cy) / b + (o + (x * n % b + cy) % b) / b) < b * b := by omega
  have := Nat.lt_of_mul_lt_mul_left hlt
  exact ⟨Nat.lt_of_le_of_lt (Nat.le_add_right _ _) this, this, e⟩

/-- The places below off + k are done. -/
structure RowSum (b off : Nat) (l X0 : List Nat) (n k cy : Nat) (X : List Nat) : Prop where
  carry : cy < b
  len : X.length = X0.length
  dig : Dig b X
  above : ∀ j, off + k ≤ j → X.getD j 0 = X0.getD j 0
  sum : val b (X.take (off + k)) + b ^ (off + k) * cy = val b (X0.take (off + k)) + b ^ off * (val b (l.take k) * n)

theorem RowSum.start {b off n : Nat} {l X0 : List Nat} (hb : 0 < b) (h : Dig b X0) : RowSum b off l X0 n 0 0 X0 :=
  ⟨hb, rfl, h, fun _ _ => rfl, by simp⟩

theorem RowSum.step {b off n k cy : Nat} {l X0 X : List Nat} (h : RowSum b off l X0 n k cy X) (hb : 0 < b) (hl : Dig b l) (hn : n < b) (hk : off + k < X.length) :
    RowSum b off l X0 n (k + 1) (l.getD k 0 * n / b + (l.getD k 0 * n % b + cy) / b + (X.getD (off + k) 0 + (l.getD k 0 * n % b + cy) % b) / b)
      (X.set (off + k) ((X.getD (off + k) 0 + (l.getD k 0 * n % b + cy) % b) % b)) := by
  obtain ⟨p1, p2, p3⟩ := one_place hb (hl.getD hb k) hn h.carry (h.dig.getD hb (off + k))
  refine ⟨p2, by rw [List.length_set]; exact h.len, h.dig.set _ (Nat.mod_lt _ hb), fun j hj => ?_, ?_⟩
  · rw [List.getD_eq_getElem?_getD, List.getElem?_set_ne (by omega), ← List.getD_eq_getElem?_getD]
    exact h.above j (by omega)
  · rw [show off + (k + 1) = off + k + 1 by omega, val_set_take b X _ _ hk, val_take_succ, val_take_succ, Nat.pow_succ, Nat.mul_assoc, Nat.add_assoc, ← Nat.mul_add, p3, ← h.above (off + k) (Nat.le_refl _)]
    have hs := h.sum
    rw [Nat.mul_add, Nat.mul_add, Nat.add_mul, Nat.mul_add (b ^ off)]
    have e : b ^ off * (b ^ k * l.getD k 0 * n) = b ^ (off + k) * (l.getD k 0 * n) := by rw [Nat.pow_add]; simp only [Nat.mul_assoc]
    rw [e]
    omega

theorem RowSum.fin {b off n cy : Nat} {l X0 X : List Nat} (h : RowSum b off l X0 n l.length cy X) (hk : off + l.length < X.length) :
    val b ((X.set (off + l.length) cy).take (off + l.length + 1)) = val b (X0.take (off + l.length)) + b ^ off * (val b l * n) := by
  rw [val_set_take b X _ _ hk, h.sum, List.take_length]
end Go.Proofs.YtnoelffaccekjaaDoor
