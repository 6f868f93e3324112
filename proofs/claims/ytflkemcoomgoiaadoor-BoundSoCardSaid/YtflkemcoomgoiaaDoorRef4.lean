/- The document's products: Mul and Pow by their contracts. Conditions: the lists are short, the digits are digits. -/
import Derived.Test.YtflkemcoomgoiaaDoorRefA
import Derived.BigQuiet
import Derived.Deep.QuietTactic
namespace Go.Proofs.YtflkemcoomgoiaaDoor
set_option maxRecDepth 100000
open Go.RowKit

theorem val_set (B : Nat) : ∀ (l : List Nat) (p y : Nat), p < l.length → val B (l.set p y) + B ^ p * l.getD p 0 = val B l + B ^ p * y
  | [], p, y, h => by simp at h
  | x :: l, 0, y, _ => by simp; omega
  | x :: l, p + 1, y, h => by
    have ih := val_set B l p y (by simpa using h)
    simp only [List.set_cons_succ, val_cons, List.getD_cons_succ, Nat.pow_succ]
    have e : ∀ z, B ^ p * B * z = B * (B ^ p * z) := fun z => by rw [Nat.mul_comm (B ^ p) B, Nat.mul_assoc]
    rw [e, e]
    have := congrArg (B * ·) ih
    simp only [Nat.mul_add] at this
    omega

/-- What stands in the product's row. -/
structure MOwn (w : World) (N : Nat) (X : List Nat) (wr : World) : Prop where
  len : X.length = N
  dig : Dig DD X
  own : wr.ownsRow w.heap.size 33 1 (.slice (some ⟨w.heap.size, 0, none⟩) N N) N (X.map D32)
  below : Below w.heap.size w wr
/-- The outer loop's relation: i digits of l are done. -/
structure MOut (w : World) (N : Nat) (l m : List Nat) (i : Nat) (X : List Nat) (wr : World) : Prop where
  o : MOwn w N X wr
  le : i ≤ l.length
  sum : val DD X = val DD (l.take i) * val DD m
/-- The inner loop's relation. -/
structure MIn (w : World) (N : Nat) (l m : List Nat) (i k cy : Nat) (X : List Nat) (wr : World) : Prop where
  o : MOwn w N X wr
  cyl : cy < DD
  le : k ≤ m.length + 1
  sum : val DD X + DD ^ (i + k) * cy = val DD (l.take i) * val DD m + DD ^ i * (l.getD i 0 * val DD (m.take k))

theorem MOwn.drewN {w wr : World} {N : Nat} {X : List Nat} (h : MOwn w N X wr) (n : Nat) : MOwn w N X (wr.drewN n) := ⟨h.len, h.dig, h.own, below_drewN h.below n⟩
theorem MIn.drewN {w wr : World} {N : Nat} {l m : List Nat} {i k cy : Nat} {X : List Nat} (h : MIn w N l m i k cy X wr) (n : Nat) : MIn w N l m i k cy X (wr.drewN n) := ⟨h.o.drewN n, h.cyl, h.le, h.sum⟩

theorem MOut.start {w wr : World} {N : Nat} {l m : List Nat} {i : Nat} {X : List Nat} (h : MOut w N l m i X wr) : MIn w N l m i 0 0 X wr :=
  ⟨h.o, DD_pos, Nat.zero_le _, by rw [h.sum]; simp⟩

theorem MIn.go {w wr : World} {N : Nat} {l m : List Nat} {i k cy : Nat} {X : List Nat} (h : MIn w N l m i k cy X wr) (hdl : Dig DD l) (hdm : Dig DD m) (hi : i < l.length) (hg : k < m.length ∨ 0 < cy) : k ≤ m.length := by
  rcases hg with hg | hg
  · omega
  · refine Nat.le_of_not_lt fun hk => ?_
    have hs := h.sum
    rw [val_take_ge DD m k (by omega)] at hs
    have e : val DD (l.take i) * val DD m + DD ^ i * (l.getD i 0 * val DD m) = val DD (l.take (i + 1)) * val DD m := by
      rw [val_take_succ, Nat.add_mul, Nat.mul_assoc]
    rw [e] at hs
    have h1 := val_lt (hdl.take (i + 1))
    have h2 := val_lt hdm
    rw [List.length_take, Nat.min_eq_left (by omega)] at h1
    have h3 := Nat.mul_lt_mul'' h1 h2
    rw [← Nat.pow_add] at h3
    have h4 := Nat.pow_le_pow_right (n := DD) DD_pos (show i + 1 + m.length ≤ i + k by omega)
    have h5 := Nat.le_mul_of_pos_right (DD ^ (i + k)) hg
    omega

theorem mstep {b o cy x y : Nat} (hb : 2 ≤ b) (ho : o < b) (hc : cy < b) (hx : x < b) (hy : y < b) : o + cy + x * y < b * b ∧ (o + cy + x * y) / b < b := by
  have hm : x * y ≤ (b - 1) * (b - 1) := Nat.mul_le_mul (by omega) (by omega)
  have hmm : (b - 1) * (b - 1) + 2 * (b - 1) + 1 = b * b := by
    obtain ⟨p, rfl⟩ : ∃ p, b = p + 1 := ⟨b - 1, by omega⟩
    simp only [Nat.add_sub_cancel]
    simp only [Nat.add_mul, Nat.mul_add, Nat.one_mul, Nat.mul_one]; omega
  have h : o + cy + x * y < b * b := by omega
  exact ⟨h, (Nat.div_lt_iff_lt_mul (by omega)).2 h⟩

theorem MIn.step {w wr : World} {N : Nat} {l m : List Nat} {i k cy : Nat} {X : List Nat} (h : MIn w N l m i k cy X wr) (hdl : Dig DD l) (hdm : Dig DD m) (hk : k ≤ m.length) (hp : i + k < N) :
    MIn w N l m i (k + 1) ((X.getD (i + k) 0 + cy + l.getD i 0 * m.getD k 0) / DD) (X.set (i + k) ((X.getD (i + k) 0 + cy + l.getD i 0 * m.getD k 0) % DD))
      (wr.setCell ⟨w.heap.size, i + k, none⟩ (D32 ((X.getD (i + k) 0 + cy + l.getD i 0 * m.getD k 0) % DD))) := by
  have hst := mstep DD_two (h.o.dig.getD DD_pos (i + k)) h.cyl (hdl.getD DD_pos i) (hdm.getD DD_pos k)
  refine ⟨⟨by rw [List.length_set]; exact h.o.len, h.o.dig.set _ (Nat.mod_lt _ DD_pos), ?_, h.o.below.setCell (Nat.le_refl _) _⟩, hst.2, by omega, ?_⟩
  · rw [List.map_set]
    exact (h.o.own.stored _ _).1
  · have hs := h.sum
    have e1 := val_set DD X (i + k) ((X.getD (i + k) 0 + cy + l.getD i 0 * m.getD k 0) % DD) (by rw [h.o.len]; exact hp)
    have e2 := Nat.mod_add_div (X.getD (i + k) 0 + cy + l.getD i 0 * m.getD k 0) DD
    generalize (X.getD (i + k) 0 + cy + l.getD i 0 * m.getD k 0) % DD = r at *
    generalize hq : (X.getD (i + k) 0 + cy + l.getD i 0 * m.getD k 0) / DD = q at *
    have e3 := congrArg (DD ^ (i + k) * ·) e2
    simp only [Nat.mul_add] at e3
    rw [val_take_succ, show i + (k + 1) = i + k + 1 by omega, Nat.pow_succ, Nat.mul_assoc, Nat.mul_add, Nat.mul_add]
    have e4 : DD ^ i * (l.getD i 0 * (DD ^ k * m.getD k 0)) = DD ^ (i + k) * (l.getD i 0 * m.getD k 0) := by
      rw [Nat.pow_add, Nat.mul_left_comm (l.getD i 0), Nat.mul_assoc]
    rw [e4]
    omega

theorem MIn.fin {w wr : World} {N : Nat} {l m : List Nat} {i k : Nat} {X : List Nat} (h : MIn w N l m i k 0 X wr) (hi : i < l.length) (hk : m.length ≤ k) : MOut w N l m (i + 1) X wr :=
  ⟨h.o, hi, by
    have hs := h.sum
    rw [val_take_ge DD m k hk, Nat.mul_zero, Nat.add_zero] at hs
    rw [hs, val_take_succ, Nat.add_mul, Nat.mul_assoc]⟩

theorem made_zero32 (n : Nat) : (madeCells (Value.int .u32 0).cells (n * 1)).toList = (List.replicate n 0).map D32 := by
  rw [List.map_replicate]
  simp [madeCells, Value.cells, Nat.mod_one]
  exact List.ext_getElem (by simp) (by simp)

theorem digs_len_bits {n k : Nat} (h : bitN n ≤ k) : (digs DD n).length ≤ k := by
  rw [digs_length_le DD_two]
  refine Nat.lt_of_lt_of_le (bitN_lt n) (Nat.le_trans (Nat.pow_le_pow_right (by omega) h) (Nat.pow_le_pow_left DD_two k))

end Go.Proofs.YtflkemcoomgoiaaDoor
