/- nat.Sub by its contract. Conditions: the lists are short, the limbs are limbs. -/
import Derived.Test.YtnoelffaccekjaaDoorCmp2
import Derived.Shelf.Spec.BitsCarry
import Derived.Deep.RegionWith
namespace Go.Proofs.YtnoelffaccekjaaDoor
open Go.RowKit

/-- What math/bits.Sub64 hands back, by names. -/
def dLo (x y b : Nat) : Nat := (x + BB - y - b) % BB
def dHi (x y b : Nat) : Nat := if x < y + b then 1 else 0
theorem run_sub (x y b : Nat) (hb : b ≤ 1) (w : World) :
    (callFunc 63 #[.int .u64 x, .int .u64 y, .int .u64 b]).run Tryd.prog w = .ok (.value (.tuple #[.int .u64 (dLo x y b : Nat), .int .u64 (dHi x y b : Nat)])) w := by
  rw [run_callFunc_extern Tryd.func63 (by kernel_rfl) (by kernel_rfl) (by kernel_rfl) (e := sub64Entry) (by kernel_rfl), run_sub64 x y b hb]
  rfl
theorem dHi_le (x y b : Nat) : dHi x y b ≤ 1 := by unfold dHi; split <;> omega
theorem dLo_lt (x y b : Nat) : dLo x y b < BB := Nat.mod_lt _ BB_pos
theorem d_eq {x y b : Nat} (hx : x < BB) (hy : y < BB) (hb : b ≤ 1) : dLo x y b + y + b = x + BB * dHi x y b := by
  unfold dLo dHi
  have hB : 2 ≤ BB := BB_two
  generalize BB = M at *
  split
  · rw [Nat.mod_eq_of_lt (by omega)]; omega
  · rw [show x + M - y - b = x - y - b + M by omega, Nat.add_mod_right, Nat.mod_eq_of_lt (by omega)]; omega

/-- The loop's relation in Sub. -/
structure SubRel (w : World) (l m : List Nat) (k bw : Nat) (X : List Nat) (wr : World) : Prop where
  le : k ≤ l.length
  bw1 : bw ≤ 1
  len : X.length = l.length
  dig : Dig BB X
  sum : val BB (X.take k) + val BB (m.take k) = val BB (l.take k) + BB ^ k * bw
  own : wr.ownsRow w.heap.size 33 1 (.slice (some ⟨w.heap.size, 0, none⟩) l.length l.length) l.length (X.map L64)
  below : Below w.heap.size w wr

theorem SubRel.drewN {w wr : World} {l m X : List Nat} {k bw : Nat} (h : SubRel w l m k bw X wr) (n : Nat) : SubRel w l m k bw X (wr.drewN n) := ⟨h.le, h.bw1, h.len, h.dig, h.sum, h.own, below_drewN h.below n⟩

theorem SubRel.step {w wr : World} {l m X : List Nat} {k bw : Nat} (h : SubRel w l m k bw X wr) (hl : Dig BB l) (hm : Dig BB m) (hk : k < l.length) :
    SubRel w l m (k + 1) (dHi (l.getD k 0) (m.getD k 0) bw) (X.set k (dLo (l.getD k 0) (m.getD k 0) bw)) (wr.setCell ⟨w.heap.size, k, none⟩ (L64 (dLo (l.getD k 0) (m.getD k 0) bw))) :=
  ⟨hk, dHi_le _ _ _, by rw [List.length_set]; exact h.len, h.dig.set _ (dLo_lt _ _ _), by
    have e := d_eq (hl.getD BB_pos k) (hm.getD BB_pos k) h.bw1
    have hs := h.sum
    have e2 := congrArg (BB ^ k * ·) e
    simp only [Nat.mul_add] at e2
    rw [val_set_take BB X k _ (by rw [h.len]; exact hk), val_take_succ, val_take_succ, Nat.pow_succ, Nat.mul_assoc]
    omega, by
    rw [List.map_set]; exact (h.own.stored k _).1, h.below.setCell (Nat.le_refl _) _⟩

theorem val_take_le (B : Nat) (l : List Nat) (k : Nat) : val B (l.take k) ≤ val B l := by
  by_cases hk : k ≤ l.length
  · rw [val_take_drop B l k hk]; omega
  · rw [List.take_of_length_le (by omega)]; exact Nat.le_refl _

theorem val_take_lt' {B : Nat} {l : List Nat} {k : Nat} (h : val B l < B ^ k) : val B (l.take k) = val B l := by
  by_cases hk : k ≤ l.length
  · have e := val_take_drop B l k hk
    have : val B (l.drop k) = 0 := by
      refine Nat.eq_zero_of_not_pos fun hp => ?_
      have := Nat.le_mul_of_pos_right (B ^ k) hp
      omega
    rw [e, this]; omega
  · rw [List.take_of_length_le (by omega)]

theorem SubRel.fin {w wr : World} {l m X : List Nat} {bw : Nat} (h : SubRel w l m l.length bw X wr) (hl : Dig BB l) (hle : val BB m ≤ val BB l) : strip X = digs BB (val BB l - val BB m) := by
  have hs := h.sum
  have hlt := val_lt hl
  have hX := val_lt h.dig
  rw [h.len] at hX
  rw [List.take_length, ← h.len, List.take_length, h.len, val_take_lt' (by omega)] at hs
  have hb : bw = 0 := by
    rcases (by have := h.bw1; omega : bw = 0 ∨ bw = 1) with h0 | h0
    · exact h0
    · subst h0; omega
  subst hb
  rw [strip_eq BB_two h.dig]
  congr 1; omega

/-- What nat.Sub tells. -/
def subR (A B : Nat) : Nat × Int := if A < B then (0, 1) else (A - B, 0)

end Go.Proofs.YtnoelffaccekjaaDoor
