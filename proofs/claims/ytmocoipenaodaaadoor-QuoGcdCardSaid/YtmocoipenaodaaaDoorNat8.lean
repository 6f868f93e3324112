/- prod.Times and prod.Pow by their contracts. Conditions: the lists are short, the limbs are limbs. -/
import Derived.Test.YtmocoipenaodaaaDoorNat7
import Derived.Laws.BitsLemmas
namespace Go.Proofs.YtmocoipenaodaaaDoor
open Go.RowKit

theorem of_num {w : World} {n : Nat} (hn : n < BB) : Calls Tryd.prog 16 #[L64 n] w (One w (digs BB n)) := by
  have e := strip_eq BB_two (Dig.cons hn (Dig.nil BB))
  rw [val_one] at e
  rw [← e]; exact of_any

theorem of_one {w : World} : Calls Tryd.prog 16 #[.int .u64 1] w (One w (digs BB 1)) := of_num (by decide)
theorem odd_bit {q : Nat} (h : q < 9223372036854775808) : bits .and .i64 (q : Int) 1 = ((q % 2 : Nat) : Int) := by
  have := bits_mask .i64 63 (by decide) (fun n h0 h1 => by rw [IntKind.wrap_i64]; omega) 1 (by decide) q (by omega) (by omega)
  have e : ((2 : Int) ^ 1 - 1) = 1 := by decide
  rw [e] at this
  rw [this]; omega

theorem odd_test {K i : Nat} (h : K < 9223372036854775808) : (bits .and .i64 ((K : Int) / 2 ^ i) 1 == 1) = decide (K / 2 ^ i % 2 = 1) := by
  have e : (K : Int) / 2 ^ i = ((K / 2 ^ i : Nat) : Int) := by simp
  rw [e, odd_bit (Nat.lt_of_le_of_lt (Nat.div_le_self _ _) h)]
  by_cases h1 : K / 2 ^ i % 2 = 1
  · rw [h1]; rfl
  · rw [show K / 2 ^ i % 2 = 0 by omega]; rfl

/-- The loop's relation in Pow: the powers of the exponent's upper bits. -/
structure PowRel (w : World) (A K : Nat) (v1 : Value) (s : List Nat) (j : Nat) (v : Value) (wr : World) : Prop where
  arg : RdN wr v1 s
  le : j ≤ bitN K
  small : bitN (A ^ (K / 2 ^ j)) ≤ 65536
  rd : RdN wr v (digs BB (A ^ (K / 2 ^ j)))
  below : Below w.heap.size w wr

/-- What prod.Pow tells. -/
def powR (A : Nat) (k : Int) : Nat × Int := if k < 0 then (0, 1) else if 65536 < bitN (A ^ k.toNat) then (0, 2) else (A ^ k.toNat, 0)

end Go.Proofs.YtmocoipenaodaaaDoor
