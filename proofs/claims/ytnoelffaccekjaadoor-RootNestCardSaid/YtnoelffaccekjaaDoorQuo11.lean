/- The plain law of the long division: digits from above, each guessed, taken off, and put back. Conditions: limbs are limbs. -/
import Derived.Test.YtnoelffaccekjaaDoorQuo10
namespace Go.Proofs.YtnoelffaccekjaaDoor
open Go.RowKit

/-- The outer loop's relation: p digits of the quotient are still to come. -/
structure LongRel (N D n m p : Nat) (U Q : List Nat) : Prop where
  ulen : U.length = m + n
  udig : Dig BB U
  qlen : Q.length = m
  qdig : Dig BB Q
  le : p ≤ m
  sum : val BB U + D * (BB ^ p * val BB (Q.drop p)) = N
  lt : val BB U < D * BB ^ p

/-- The part that is looked at. -/
def part (U : List Nat) (j n : Nat) : List Nat := (U.drop j).take (n + 1)
theorem part_len {U : List Nat} {j n : Nat} (h : j + (n + 1) ≤ U.length) : (part U j n).length = n + 1 := by
  unfold part; rw [List.length_take, List.length_drop]; omega
theorem part_dig {U : List Nat} (h : Dig BB U) (j n : Nat) : Dig BB (part U j n) := (h.drop j).take _

theorem LongRel.small {N D n m j : Nat} {U Q : List Nat} (h : LongRel N D n m (j + 1) U Q) (hD : D < BB ^ n) : val BB U < BB ^ (j + (n + 1)) := by
  have h1 := h.lt
  have h2 := Nat.mul_lt_mul_of_pos_right hD (Nat.pow_pos (n := j + 1) BB_pos)
  rw [← Nat.pow_add, show n + (j + 1) = j + (n + 1) by omega] at h2
  omega
theorem LongRel.cut {N D n m j : Nat} {U Q : List Nat} (h : LongRel N D n m (j + 1) U Q) (hD : D < BB ^ n) : val BB (U.take (j + (n + 1))) = val BB U ∧ val BB U = val BB (U.take j) + BB ^ j * val BB (part U j n) := by
  have h1 := val_take_lt' (h.small hD)
  refine ⟨h1, ?_⟩
  have hle := h.le
  have e := val_take_drop' BB (U.take (j + (n + 1))) j
  rw [List.take_take, Nat.min_eq_left (by omega), h1, List.drop_take, show j + (n + 1) - j = n + 1 by omega] at e
  exact e
theorem LongRel.part_lt {N D n m j : Nat} {U Q : List Nat} (h : LongRel N D n m (j + 1) U Q) (hD : D < BB ^ n) : val BB (part U j n) < D * BB := by
  have h1 := (h.cut hD).2
  have h2 := h.lt
  rw [h1, Nat.pow_succ, ← Nat.mul_assoc, Nat.mul_right_comm] at h2
  have h3 : BB ^ j * val BB (part U j n) < BB ^ j * (D * BB) := by
    rw [Nat.mul_comm (BB ^ j) (D * BB)]
    omega
  exact Nat.lt_of_mul_lt_mul_left h3

/-- The upper limbs of a number. -/
theorem val_top1 {B : Nat} {P : List Nat} {n : Nat} (hP : P.length = n + 1) : val B P = val B (P.take n) + B ^ n * P.getD n 0 := by
  rw [← val_take_succ, ← hP, List.take_length]
theorem top_le {P V : List Nat} {n : Nat} (hP : P.length = n + 1) (hV : V.length = n) (hn : 1 ≤ n) (hdV : Dig BB V) (h : val BB P < val BB V * BB) : P.getD n 0 ≤ V.getD (n - 1) 0 := by
  have e1 := val_top1 (B := BB) hP
  have e2 := val_top1 (B := BB) (P := V) (n := n - 1) (by omega)
  have h1 := val_lt (hdV.take (n - 1))
  rw [List.length_take, Nat.min_eq_left (by omega)] at h1
  have h2 : val BB V + 1 ≤ BB ^ (n - 1) * (V.getD (n - 1) 0 + 1) := by rw [Nat.mul_add]; omega
  have h3 := Nat.mul_le_mul_right BB h2
  rw [Nat.mul_right_comm, ← Nat.pow_succ, show (n - 1).succ = n by omega, Nat.add_mul] at h3
  have h4 : BB ^ n * P.getD n 0 < BB ^ n * (V.getD (n - 1) 0 + 1) := by omega
  have := Nat.lt_of_mul_lt_mul_left h4
  omega

theorem val_top3 {P : List Nat} {n : Nat} (hP : P.length = n + 3) : val BB P = val BB (P.take n) + BB ^ n * ((P.getD (n + 2) 0 * BB + P.getD (n + 1) 0) * BB + P.getD n 0) := by
  rw [val_top1 (n := n + 2) hP, val_take_succ, val_take_succ, Nat.pow_succ, Nat.pow_succ, Nat.pow_succ]
  generalize P.getD (n + 2) 0 = a
  generalize P.getD (n + 1) 0 = b
  generalize P.getD n 0 = c
  rw [Nat.mul_add, Nat.add_mul, Nat.mul_add, Nat.mul_assoc (BB ^ n) BB b, Nat.mul_comm BB b, Nat.mul_assoc (BB ^ n * BB), Nat.mul_assoc (BB ^ n) BB, ← Nat.mul_assoc BB BB, Nat.mul_comm (BB * BB) a, ← Nat.mul_assoc a]
  omega
theorem val_top2 {V : List Nat} {n : Nat} (hV : V.length = n + 2) : val BB V = val BB (V.take n) + BB ^ n * (V.getD (n + 1) 0 * BB + V.getD n 0) := by
  rw [val_top1 (n := n + 1) hV, val_take_succ, Nat.pow_succ]
  generalize V.getD (n + 1) 0 = b
  generalize V.getD n 0 = c
  rw [Nat.mul_add, Nat.mul_assoc (BB ^ n) BB b, Nat.mul_comm BB b]
  omega

/-- What guess tells isn't too small for the whole divisor either. -/
theorem guess_up {P V : List Nat} {n g : Nat} (hP : P.length = n + 3) (hV : V.length = n + 2) (hdP : Dig BB P) (h : val BB P < val BB V * BB) (hg : Guessed P (V.getD (n + 1) 0) (V.getD n 0) g) : val BB P < (g + 1) * val BB V := by
  obtain ⟨-, hg⟩ := hg
  rcases hg with hg | hg
  · rw [hP, show n + 3 - 1 = n + 2 by omega, show n + 3 - 2 = n + 1 by omega, show n + 3 - 3 = n by omega] at hg
    have e1 := val_top3 hP
    have e2 := val_top2 hV
    have h1 := val_lt (hdP.take n)
    rw [List.length_take, Nat.min_eq_left (by omega)] at h1
    generalize (P.getD (n + 2) 0 * BB + P.getD (n + 1) 0) * BB + P.getD n 0 = T at *
    generalize V.getD (n + 1) 0 * BB + V.getD n 0 = W at *
    have h2 := Nat.mul_le_mul_left (BB ^ n) (show T + 1 ≤ (g + 1) * W from hg)
    rw [Nat.mul_add, Nat.mul_one, Nat.mul_left_comm] at h2
    rw [e1, e2, Nat.mul_add]
    omega
  · rw [hg, Nat.mul_comm]; exact h

/-- The inner loop's relation: d is the digit as it stands, c whether it is too great, Y what stands in the place. -/
structure InRel (D u j n d : Nat) (c : Bool) (Y : Nat) : Prop where
  eq : Y + BB ^ j * (D * d) = u + BB ^ (j + n + 1) * b2n c
  up : u < (d + 1) * D * BB ^ j

theorem InRel.pos {D u j n d Y : Nat} (h : InRel D u j n d true Y) (hY : Y < BB ^ (j + n + 1)) : u < d * D * BB ^ j ∧ d ≠ 0 := by
  have e := h.eq
  simp only [b2n, if_true, Nat.mul_one] at e
  have e2 : BB ^ j * (D * d) = d * D * BB ^ j := by rw [Nat.mul_comm, Nat.mul_comm D d]
  rw [e2] at e
  refine ⟨by omega, fun h0 => ?_⟩
  rw [h0, Nat.zero_mul, Nat.zero_mul] at e; omega
theorem InRel.back {D u j n d Y Y' : Nat} {c : Bool} (h : InRel D u j n d true Y) (hY : Y < BB ^ (j + n + 1)) (hp : Y' + BB ^ (j + n + 1) * b2n c = Y + BB ^ j * D) : InRel D u j n (d - 1) (!c) Y' := by
  obtain ⟨h1, h2⟩ := h.pos hY
  obtain ⟨k, rfl⟩ : ∃ k, d = k + 1 := ⟨d - 1, by omega⟩
  have e := h.eq
  simp only [b2n, if_true, Nat.mul_one] at e
  rw [Nat.mul_add D, Nat.mul_add (BB ^ j), Nat.mul_one] at e
  refine ⟨?_, by rw [Nat.add_sub_cancel]; exact h1⟩
  rw [Nat.add_sub_cancel]
  cases c
  · simp only [b2n, Bool.not_false, if_true, Bool.false_eq_true, if_false, Nat.mul_zero, Nat.mul_one] at hp ⊢
    omega
  · simp only [b2n, Bool.not_true, if_true, Bool.false_eq_true, if_false, Nat.mul_zero, Nat.mul_one] at hp ⊢
    omega

theorem LongRel.step {N D n m j d : Nat} {U Q X : List Nat} (h : LongRel N D n m (j + 1) U Q) (hX : X.length = U.length) (hdX : Dig BB X) (hd : d < BB) (hi : InRel D (val BB U) j n d false (val BB X)) : LongRel N D n m j X (Q.set j d) := by
  have hle := h.le
  have hs := h.sum
  have e := hi.eq
  simp only [b2n, Bool.false_eq_true, if_false, Nat.mul_zero, Nat.add_zero] at e
  refine ⟨hX.trans h.ulen, hdX, by rw [List.length_set]; exact h.qlen, h.qdig.set _ hd, by omega, ?_, ?_⟩
  · rw [drop_set_self Q j d (by rw [h.qlen]; omega), val_cons, ← hs, ← e, Nat.mul_add (BB ^ j), Nat.mul_add D, Nat.pow_succ, Nat.mul_assoc (BB ^ j) BB, Nat.mul_left_comm D (BB ^ j) d]
    omega
  · have h2 := hi.up
    rw [Nat.add_mul, Nat.one_mul, Nat.add_mul, ← e, Nat.mul_comm (BB ^ j) (D * d), Nat.mul_comm D d] at h2
    omega

theorem LongRel.fin {A B n m s : Nat} {U Q : List Nat} (h : LongRel (A * 2 ^ s) (B * 2 ^ s) n m 0 U Q) : strip Q = digs BB (A / B) ∧ val BB U / 2 ^ s = A % B := by
  have hs := h.sum
  have hl := h.lt
  rw [Nat.pow_zero, List.drop_zero, Nat.one_mul] at hs
  rw [Nat.pow_zero, Nat.mul_one] at hl
  have hP : 0 < 2 ^ s := Nat.pow_pos (by omega)
  have hd : A * 2 ^ s / (B * 2 ^ s) = val BB Q := by
    rw [← hs, Nat.add_comm, Nat.mul_add_div (by omega), Nat.div_eq_of_lt hl, Nat.add_zero]
  have hm : A * 2 ^ s % (B * 2 ^ s) = val BB U := by
    rw [← hs, Nat.add_comm, Nat.mul_add_mod, Nat.mod_eq_of_lt hl]
  rw [Nat.mul_div_mul_right _ _ hP] at hd
  rw [Nat.mul_mod_mul_right] at hm
  exact ⟨by rw [strip_eq BB_two h.qdig, hd], by rw [← hm, Nat.mul_div_cancel _ hP]⟩
end Go.Proofs.YtnoelffaccekjaaDoor
