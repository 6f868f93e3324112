/- Rounding, plainly: what package round tells of bare dyads. Conditions: none. -/
import Derived.Test.YtflkemcoomgoiaaDoorDyLaw2
namespace Go.Proofs.YtflkemcoomgoiaaDoor
set_option maxRecDepth 100000
open Go.RowKit

/-- Does a direction go away from nought? -/
def upB (dir : Int) (neg : Bool) : Bool := decide (dir = 2) && !neg || decide (dir = 3) && neg
def awayB (dir : Int) (neg odd half below : Bool) : Bool := if dir = 0 then half && (below || odd) else (half || below) && upB dir neg
/-- A whole number of units, the half, and what is below. -/
def partsP (m : Nat) (E unit : Int) : Nat × Bool × Bool :=
  if unit ≤ E then (m * 2 ^ (E - unit).toNat, false, false)
  else (m / 2 ^ (unit - E).toNat, decide (m / 2 ^ ((unit - E).toNat - 1) % 2 = 1), decide (m % 2 ^ ((unit - E).toNat - 1) ≠ 0))
def wholeP (neg : Bool) (m : Nat) (E : Int) (more : Bool) (dir unit : Int) : Nat × Bool :=
  ((partsP m E unit).1 + (if awayB dir neg (decide ((partsP m E unit).1 % 2 = 1)) (partsP m E unit).2.1 ((partsP m E unit).2.2 || more) then 1 else 0), (partsP m E unit).2.1 || ((partsP m E unit).2.2 || more))
def signedB (b : Nat) (neg : Bool) : Nat := if neg then b + 9223372036854775808 else b
def overB (neg : Bool) (dir : Int) : Nat := signedB (if decide (dir = 0) || upB dir neg then 9218868437227405312 else 9218868437227405311) neg
def underB (neg : Bool) (dir : Int) : Nat := signedB (if upB dir neg then 1 else 0) neg
/-- The bits that are worth a bare dyad, if any are. -/
def exactB (n : Bool) (m : Nat) (E : Int) : Nat × Bool :=
  if m = 0 then (0, true)
  else if 1023 < topD ⟨n, m, E⟩ ∨ E < max (topD ⟨n, m, E⟩ - 52) (-1074) then (0, false)
  else (signedB (if 4503599627370496 ≤ m * 2 ^ (E - max (topD ⟨n, m, E⟩ - 52) (-1074)).toNat then m * 2 ^ (E - max (topD ⟨n, m, E⟩ - 52) (-1074)).toNat % 4503599627370496 + (max (topD ⟨n, m, E⟩ - 52) (-1074) + 1075).toNat * 4503599627370496 else m * 2 ^ (E - max (topD ⟨n, m, E⟩ - 52) (-1074)).toNat) n, true)

/-- Small numbers as they are (in a clean context: omega beside powers of two and great literals ends in the kernel's memory). -/
theorem iwN {n : Nat} (h : n ≤ 1099511627776) : IntKind.i64.wrap (n : Int) = (n : Int) := by rw [IntKind.wrap_i64]; omega
theorem iwI {n : Int} (h : n.natAbs ≤ 1099511627776) : IntKind.i64.wrap n = n := by rw [IntKind.wrap_i64]; omega
theorem uwN {n : Nat} (h : n ≤ 1099511627776) : IntKind.u64.wrap (n : Int) = (n : Int) := by rw [IntKind.wrap_u64]; omega
theorem wwN {n : Nat} (h : n ≤ 1099511627776) : wrap64 (n : Int) = (n : Int) := by unfold wrap64; omega
theorem wwI {n : Int} (h : n.natAbs ≤ 1099511627776) : wrap64 n = n := by unfold wrap64; omega
theorem and_1 (x : Nat) (hx : x < 18446744073709551616) : bits .and .u64 (x : Int) 1 = ((x % 2 : Nat) : Int) := by
  have := bits_mask .u64 64 (by decide) (fun n h0 h1 => by rw [IntKind.wrap_u64]; omega) 1 (by decide) x (by omega) (by omega)
  have e : ((2 : Int) ^ 1 - 1) = 1 := by decide
  rw [e] at this
  rw [this]; omega
theorem and_frac (x : Nat) (hx : x < 18446744073709551616) : bits .and .u64 (x : Int) 4503599627370495 = ((x % 4503599627370496 : Nat) : Int) := by
  have := bits_mask .u64 64 (by decide) (fun n h0 h1 => by rw [IntKind.wrap_u64]; omega) 52 (by decide) x (by omega) (by omega)
  have e : ((2 : Int) ^ 52 - 1) = 4503599627370495 := by decide
  rw [e] at this
  rw [this]; omega
theorem or_top {b : Nat} (hb : b < 9223372036854775808) : bits .or .u64 (b : Int) 9223372036854775808 = ((b + 9223372036854775808 : Nat) : Int) := by
  have := (bits_nat .u64 64 (by decide) (fun n h0 h1 => by rw [IntKind.wrap_u64]; omega) b 9223372036854775808 (by omega) (by decide)).2
  rw [show ((9223372036854775808 : Nat) : Int) = 9223372036854775808 from rfl] at this
  rw [this]
  have h := Nat.two_pow_add_eq_or_of_lt (i := 63) (b := b) (by omega) 1
  rw [show 2 ^ 63 * 1 = 9223372036854775808 by decide] at h
  rw [Nat.or_comm, ← h, Nat.add_comm]
theorem or_field {f k : Nat} (hf : f < 4503599627370496) (hk : k < 2048) : bits .or .u64 (f : Int) ((k * 4503599627370496 : Nat) : Int) = ((f + k * 4503599627370496 : Nat) : Int) := by
  rw [(bits_nat .u64 64 (by decide) (fun n h0 h1 => by rw [IntKind.wrap_u64]; omega) f (k * 4503599627370496) (by omega) (by omega)).2]
  have h := Nat.two_pow_add_eq_or_of_lt (i := 52) (b := f) (by omega) k
  rw [show 2 ^ 52 = 4503599627370496 by decide] at h
  rw [Nat.or_comm, Nat.mul_comm k, ← h, Nat.add_comm]
end Go.Proofs.YtflkemcoomgoiaaDoor
