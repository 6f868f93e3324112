/- Slices that read as a number, by its value alone: Shl, Shr, Pow, Times. Conditions: at most 40000 limbs. -/
import Derived.Test.YtnoelffaccekjaaDoorNumB
import Derived.Test.YtnoelffaccekjaaDoorShl
namespace Go.Proofs.YtnoelffaccekjaaDoor
open Go.RowKit Go.ChangeShapes Go.WideShapes

theorem shl_n {w : World} {v : Value} {A n C : Nat} (h : Num w v A) (e : A * 2 ^ n = C) (hn : n + bitN A ≤ 65536) : Calls Tryd.prog 42 #[v, .int .i64 n] w (OneZ w C) := by
  obtain ⟨l, h1, h2, h3, rfl⟩ := h
  subst e
  have := shl_any h1 h2 (i := (n : Int)) (by omega) (by omega) (by omega)
  unfold shlR at this
  rw [if_neg (by omega)] at this
  by_cases h0 : val BB l = 0
  · rw [if_pos h0] at this
    rw [h0, Nat.zero_mul]; exact this
  · rw [if_neg h0, if_neg (by omega), Int.toNat_natCast] at this
    exact this
theorem pow_n {w : World} {v : Value} {A K C : Nat} (h : Num w v A) (e : A ^ K = C) (hb : bitN C ≤ 65536) (hK : K ≤ 9223372036854775807) : Calls Tryd.prog 16 #[v, .int .i64 K] w (OneZ w C) := by
  obtain ⟨l, h1, h2, h3, rfl⟩ := h
  subst e
  have := pow_any (k := (K : Int)) h1 h2 (by omega) (by omega) (by omega)
  unfold powR at this
  rw [if_neg (by omega), Int.toNat_natCast, if_neg (by omega)] at this
  exact this
theorem times_n {w : World} {v : Value} {A n C : Nat} (h : Num w v A) (hn : n < BB) (e : A * n = C) (hs : bitN A + bitN n ≤ 65536) : Calls Tryd.prog 51 #[v, L64 n] w (OneZ w C) := by
  obtain ⟨l, h1, h2, h3, rfl⟩ := h
  subst e
  have := times_any h1 h2 (by omega) hn
  rw [mulR_small hs] at this
  exact this
theorem of_n {w : World} {n : Nat} (hn : n < BB) : Calls Tryd.prog 32 #[L64 n] w (One w (digs BB n)) := of_num hn
theorem of_1 {w : World} : Calls Tryd.prog 32 #[.int .u64 1] w (One w (digs BB 1)) := of_one
end Go.Proofs.YtnoelffaccekjaaDoor
