/- The document's Double and Bit by their contracts. Conditions: the lists are short. -/
import Derived.Test.YthmaoohjhnpamaaDoorQuoE
import Derived.Test.YthmaoohjhnpamaaDoorRefA
import Derived.Test.YthmaoohjhnpamaaDoorCmpA
import Derived.Test.YthmaoohjhnpamaaDoorRef4
namespace Go.Proofs.YthmaoohjhnpamaaDoor
set_option maxRecDepth 100000
open Go.RowKit

/-- The loop's relation in Double. -/
structure RDbl (w : World) (l : List Nat) (more S k cy : Nat) (X : List Nat) (v : Value) (wr : World) : Prop where
  toOwn : ToOwn w X v wr
  cy1 : cy ≤ 1
  len : X.length = k
  le : k ≤ l.length + 1
  last : cy = 0 ∨ k ≤ l.length
  sum : val DD X + DD ^ k * cy = 2 * val DD (l.take k) + more
  low : k = 0 ∨ DD ^ (k - 1) ≤ S

theorem RDbl.step {w wr wr' : World} {l : List Nat} {more S k cy : Nat} {X : List Nat} {v v' : Value} (h : RDbl w l more S k cy X v wr) (hdl : Dig DD l) (hS : S = 2 * val DD l + more)
    (hl : ∀ k, k < l.length → DD ^ k ≤ val DD l) (hgo : k < l.length ∨ 0 < cy)
    (ho : wr'.ownsRow w.heap.size 117 1 v' (X.length + 1) (X.map D32 ++ [D32 ((cy + 2 * l.getD k 0) % DD)])) (hb : Below w.heap.size w wr') :
    RDbl w l more S (k + 1) ((cy + 2 * l.getD k 0) / DD) (X ++ [(cy + 2 * l.getD k 0) % DD]) v' wr' := by
  have a1 := hdl.getD DD_pos k
  have hc := h.cy1
  have hq : (cy + 2 * l.getD k 0) / DD ≤ 1 := by
    rw [Nat.div_le_iff_le_mul_add_pred DD_pos]; omega
  have hlen := h.len
  refine ⟨⟨h.toOwn.dig.append (Dig.cons (Nat.mod_lt _ DD_pos) (Dig.nil _)), by rw [List.length_append, List.map_append]; exact ho, hb⟩, hq, by rw [List.length_append, hlen]; rfl, ?_, ?_, ?_, ?_⟩
  · rcases h.last with h0 | h0 <;> omega
  · by_cases hk : k + 1 ≤ l.length
    · exact .inr hk
    · left
      have e1 : l.getD k 0 = 0 := by
        rw [List.getD_eq_getElem?_getD, List.getElem?_eq_none (by omega)]; rfl
      rw [Nat.div_eq_of_lt]
      have : 2 ≤ DD := DD_two
      omega
  · have e := Nat.mod_add_div (cy + 2 * l.getD k 0) DD
    have hs := h.sum
    rw [val_append, val_one, hlen, val_take_succ, Nat.pow_succ, Nat.mul_assoc, Nat.add_assoc, ← Nat.mul_add, e, Nat.mul_add, Nat.mul_add, Nat.mul_left_comm (DD ^ k) 2]
    omega
  · right
    rw [Nat.add_sub_cancel, hS]
    by_cases hk : k < l.length
    · have := hl k hk; omega
    · rcases hgo with hg | hg
      · omega
      · have hs := h.sum
        obtain rfl : cy = 1 := by omega
        rw [val_take_ge DD l k (by omega)] at hs
        omega

theorem RDbl.fin {w wr : World} {l : List Nat} {more S k : Nat} {X : List Nat} {v : Value} (h : RDbl w l more S k 0 X v wr) (hS : S = 2 * val DD l + more) (h1 : l.length ≤ k) : RdD wr v (digs DD S) := by
  have hs := h.sum
  rw [val_take_ge DD l k h1, ← hS] at hs
  have hv : val DD X = S := by omega
  have := full_digs DD_two h.toOwn.dig (by rw [h.len, hv]; rcases h.low with h0 | h0; exact .inl h0; exact .inr h0)
  rw [← hv, ← this]
  exact Rd.of_own h.toOwn.own (fun _ _ => trivial)

/-- A bit of a number is one of a digit of it. -/
theorem digit_bit {l : List Nat} (hd : Dig DD l) (i : Nat) : val DD l / 2 ^ i % 2 = l.getD (i / 16) 0 / 2 ^ (i % 16) % 2 := by
  have e1 : val DD l / 2 ^ i = val DD l / DD ^ (i / 16) / 2 ^ (i % 16) := by
    rw [Nat.div_div_eq_div_mul, DD_pow, ← Nat.pow_mul, ← Nat.pow_add]
    congr 2; omega
  rw [e1, val_div DD_pos hd, val_drop_any]
  generalize l.getD (i / 16) 0 = x
  generalize val DD (l.drop (i / 16 + 1)) = V
  obtain ⟨r, hr⟩ : ∃ r, i % 16 + 1 + r = 16 := ⟨15 - i % 16, by omega⟩
  have e2 : DD = 2 ^ (i % 16) * (2 * 2 ^ r) := by
    generalize i % 16 = t at *
    rw [DD_pow, ← hr, Nat.pow_add, Nat.pow_succ, Nat.mul_assoc]
  rw [e2, Nat.mul_assoc, Nat.add_mul_div_left _ _ (Nat.pow_pos (by omega)), Nat.mul_assoc, Nat.add_mul_mod_self_left]

end Go.Proofs.YthmaoohjhnpamaaDoor

/- The document's Cmp and Sub by their contracts. Conditions: the lists are short. -/
namespace Go.Proofs.YthmaoohjhnpamaaDoor
set_option maxRecDepth 100000
open Go.RowKit

end Go.Proofs.YthmaoohjhnpamaaDoor

/- The document's Sub by its contract. Conditions: the lists are short, the first number isn't nought nor less than the second. -/
namespace Go.Proofs.YthmaoohjhnpamaaDoor
set_option maxRecDepth 100000
open Go.RowKit

theorem own_form {w : World} {base : Nat} {e : TypeId} {v : Value} {n : Nat} {xs : List Value} (h : w.ownsRow base e 1 v n xs) (hn : 0 < n) : ∃ g cap, base ≤ g ∧ v = .slice (some ⟨g, 0, none⟩) n cap ∧ n ≤ cap ∧ cap ≤ 9223372036854775807 ∧ g < w.heap.size := by
  have hl := h.1
  rcases h.2 with ⟨rfl, rfl⟩ | ⟨g, cap, cur, rfl, h2, h3, h4, h5, -⟩
  · simp at hl; omega
  · refine ⟨g, cap, h2, rfl, by omega, by unfold maxLen at h5; omega, ?_⟩
    rcases Nat.lt_or_ge g w.heap.size with h | h
    · exact h
    · simp [Array.getElem?_eq_none h] at h3

/-- The loop's relation in Sub. -/
structure RSub (w : World) (l m : List Nat) (g cap k bw : Nat) (X : List Nat) (wr : World) : Prop where
  le : k ≤ l.length
  bw1 : bw ≤ 1
  len : X.length = l.length
  dig : Dig DD X
  above : ∀ j, k ≤ j → X.getD j 0 = l.getD j 0
  sum : val DD (X.take k) + val DD (m.take k) = val DD (l.take k) + DD ^ k * bw
  own : wr.ownsRow w.heap.size 117 1 (.slice (some ⟨g, 0, none⟩) l.length cap) l.length (X.map D32)
  below : Below w.heap.size w wr

theorem RSub.step {w wr : World} {l m : List Nat} {g cap k bw x bw' : Nat} {X : List Nat} (h : RSub w l m g cap k bw X wr) (hk : k < l.length) (hb : bw' ≤ 1) (hx : x < DD) (he : x + (bw + m.getD k 0) = l.getD k 0 + DD * bw') {wr' : World}
    (ho : wr'.ownsRow w.heap.size 117 1 (.slice (some ⟨g, 0, none⟩) l.length cap) l.length ((X.set k x).map D32)) (hw : Below w.heap.size w wr') : RSub w l m g cap (k + 1) bw' (X.set k x) wr' := by
  refine ⟨hk, hb, by rw [List.length_set]; exact h.len, h.dig.set _ hx, fun j hj => by rw [getD_set_ne (by omega)]; exact h.above j (by omega), ?_, ho, hw⟩
  have hs := h.sum
  have e2 := congrArg (DD ^ k * ·) he
  simp only [Nat.mul_add] at e2
  rw [val_set_take DD X _ _ (by rw [h.len]; exact hk), val_take_succ, val_take_succ, Nat.pow_succ, Nat.mul_assoc]
  omega

theorem RSub.fin {w wr : World} {A B g cap bw : Nat} {X : List Nat} (h : RSub w (digs DD A) (digs DD B) g cap (digs DD A).length bw X wr) (hB : B ≤ A) : strip X = digs DD (A - B) := by
  have hs := h.sum
  have hml : (digs DD B).length ≤ (digs DD A).length := (digs_length_le DD_two _ _).2 (Nat.lt_of_le_of_lt hB ((digs_length_le DD_two _ _).1 (Nat.le_refl _)))
  have e1 : X.take (digs DD A).length = X := by rw [← h.len, List.take_length]
  rw [e1, val_take_ge DD _ _ hml, List.take_length, val_digs DD_two, val_digs DD_two] at hs
  have hlt := val_lt h.dig
  rw [h.len] at hlt
  have h0 : bw = 0 := by
    rcases Nat.eq_zero_or_pos bw with h | h
    · exact h
    · have := Nat.mul_le_mul_left (DD ^ (digs DD A).length) h
      omega
  rw [h0, Nat.mul_zero, Nat.add_zero] at hs
  rw [strip_eq DD_two h.dig, show val DD X = A - B by omega]

end Go.Proofs.YthmaoohjhnpamaaDoor

/- The document's Div by its contract. Conditions: the lists are short, the divisor isn't nought. -/
namespace Go.Proofs.YthmaoohjhnpamaaDoor
set_option maxRecDepth 100000
open Go.RowKit

theorem digsD_mono {a b : Nat} (h : a ≤ b) : (digs DD a).length ≤ (digs DD b).length :=
  (digs_length_le DD_two _ _).2 (Nat.lt_of_le_of_lt h ((digs_length_le DD_two _ _).1 (Nat.le_refl _)))

/-- One round of dividing by bits. -/
theorem div_round (A B j : Nat) (hB : 0 < B) : A / 2 ^ j = 2 * (A / 2 ^ (j + 1)) + A / 2 ^ j % 2 ∧
    (2 * (A / 2 ^ (j + 1) % B) + A / 2 ^ j % 2 < B → A / 2 ^ j / B = 2 * (A / 2 ^ (j + 1) / B) ∧ A / 2 ^ j % B = 2 * (A / 2 ^ (j + 1) % B) + A / 2 ^ j % 2) ∧
    (B ≤ 2 * (A / 2 ^ (j + 1) % B) + A / 2 ^ j % 2 → A / 2 ^ j / B = 2 * (A / 2 ^ (j + 1) / B) + 1 ∧ A / 2 ^ j % B = 2 * (A / 2 ^ (j + 1) % B) + A / 2 ^ j % 2 - B) := by
  have e1 : A / 2 ^ (j + 1) = A / 2 ^ j / 2 := by rw [Nat.pow_succ, Nat.div_div_eq_div_mul]
  rw [e1]
  generalize A / 2 ^ j = T
  have e2 : T = 2 * (T / 2) + T % 2 := by omega
  have e3 := Nat.mod_add_div (T / 2) B
  have hlt := Nat.mod_lt (T / 2) hB
  have hm := Nat.mod_lt T (show 0 < 2 by omega)
  generalize T % 2 = d at *
  generalize T / 2 = t at *
  generalize t / B = q at *
  generalize t % B = r at *
  refine ⟨e2, fun h => ?_, fun h => ?_⟩
  · have e : T = B * (2 * q) + (2 * r + d) := by rw [e2, ← e3, Nat.mul_left_comm B 2 q]; omega
    rw [e, Nat.mul_add_div hB, Nat.div_eq_of_lt h, Nat.mul_add_mod, Nat.mod_eq_of_lt h]
    exact ⟨rfl, rfl⟩
  · have e : T = B * (2 * q + 1) + (2 * r + d - B) := by rw [e2, ← e3, Nat.mul_add B, Nat.mul_left_comm B 2 q]; omega
    have h2 : 2 * r + d - B < B := by omega
    rw [e, Nat.mul_add_div hB, Nat.div_eq_of_lt h2, Nat.mul_add_mod, Nat.mod_eq_of_lt h2]
    exact ⟨rfl, rfl⟩

theorem bitsD {A k : Nat} (h : (digs DD A).length ≤ k) : bitN A ≤ 16 * k := by
  rw [bitN_le, Nat.pow_mul, ← DD_pow]
  exact (digs_length_le DD_two A k).1 h

/-- What the document's Div leaves. -/
def TwoD (w : World) (a b : Nat) (e : Ending) (w' : World) : Prop :=
  ∃ v u, e = .returned (.tuple #[v, u]) ∧ RdD w' v (digs DD a) ∧ RdD w' u (digs DD b) ∧ Below w.heap.size w w'

end Go.Proofs.YthmaoohjhnpamaaDoor

/- Digits to 65536 that are a number: the document's sums, products, orders by the value alone; its Shl. Conditions: the numbers are short. -/
namespace Go.Proofs.YthmaoohjhnpamaaDoor
set_option maxRecDepth 100000
open Go.RowKit Go.ChangeShapes Go.WideShapes

theorem digs_up {A : Nat} (hA : A ≠ 0) : ∀ k, digs DD (A * DD ^ k) = List.replicate k 0 ++ digs DD A
  | 0 => by rw [Nat.pow_zero, Nat.mul_one]; rfl
  | k + 1 => by
    have e : A * DD ^ (k + 1) = 0 + DD * (A * DD ^ k) := by rw [Nat.pow_succ, Nat.zero_add, ← Nat.mul_assoc, Nat.mul_comm]
    have h0 : A * DD ^ k ≠ 0 := Nat.mul_ne_zero hA (Nat.ne_of_gt (Nat.pow_pos DD_pos))
    rw [e, digs_cons DD_two DD_pos (by rw [Nat.zero_add]; exact Nat.mul_ne_zero (by decide) h0), digs_up hA k]
    rfl

end Go.Proofs.YthmaoohjhnpamaaDoor
