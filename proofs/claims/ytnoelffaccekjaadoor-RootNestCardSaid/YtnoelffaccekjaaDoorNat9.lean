/- prod.Sum by its contract. Conditions: the lists are short, the limbs are limbs. -/
import Derived.Test.YtnoelffaccekjaaDoorNat8
namespace Go.Proofs.YtnoelffaccekjaaDoor
open Go.RowKit

/-- A slice of numbers: each reads as a list of limbs. -/
structure RdNs (w : World) (v : Value) (vs : List Value) (ls : List (List Nat)) : Prop where
  rd : Rd (fun _ => True) w v vs
  len : vs.length = ls.length
  all : ∀ j, j < vs.length → ∀ l, ls[j]? = some l → RdN w (vs[j]?.getD undef) l
theorem RdNs.below {w w' : World} {v : Value} {vs : List Value} {ls : List (List Nat)} (h : RdNs w v vs ls) (hb : Below w.heap.size w w') : RdNs w' v vs ls :=
  ⟨Rd.below h.rd hb, h.len, fun j hj l hl => (h.all j hj l hl).below hb⟩

/-- The sum of all. -/
def sumAll (ls : List (List Nat)) : Nat := (ls.map (val BB)).sum

theorem sumAll_take (ls : List (List Nat)) (k : Nat) (h : k < ls.length) : sumAll (ls.take (k + 1)) = sumAll (ls.take k) + val BB ls[k] := by
  unfold sumAll
  rw [List.take_succ_eq_append_getElem h, List.map_append, List.sum_append]; simp

theorem add_num {w : World} {v u : Value} {S : Nat} {m : List Nat} (hl : RdN w v (digs BB S)) (hm : RdN w u m) (hdm : Dig BB m) (h1 : (digs BB S).length ≤ 50000) (h2 : m.length ≤ 50000) :
    Calls Tryd.prog 18 #[v, u] w (One w (digs BB (S + val BB m))) := by
  have := add_any hl hm (dig_digs BB_two _) hdm h1 h2
  rw [val_digs BB_two] at this
  exact this

/-- A sum of so many short ones is short. -/
theorem sum_short {b p : Nat} (hb : 2 ≤ b) : ∀ {ls : List (List Nat)}, (∀ l ∈ ls, Dig b l ∧ l.length ≤ p) → (ls.map (val b)).sum ≤ ls.length * b ^ p
  | [], _ => by simp
  | l :: ls, h => by
    have ih := sum_short (p := p) hb (ls := ls) (fun m hm => h m (by simp [hm]))
    have h1 := val_lt (h l (by simp)).1
    have h2 := Nat.pow_le_pow_right (n := b) (by omega) (h l (by simp)).2
    simp only [List.map_cons, List.sum_cons, List.length_cons, Nat.add_mul, Nat.one_mul]
    omega

theorem sum_len {p : Nat} {ls : List (List Nat)} (h : ∀ l ∈ ls, Dig BB l ∧ l.length ≤ p) (hn : ls.length < BB) (k : Nat) : (digs BB (sumAll (ls.take k))).length ≤ p + 1 := by
  rw [digs_length_le BB_two, Nat.pow_succ, Nat.mul_comm]
  have h1 := sum_short (p := p) BB_two (ls := ls.take k) (fun m hm => h m (List.mem_of_mem_take hm))
  have h2 : (ls.take k).length < BB := by rw [List.length_take]; omega
  have h3 := Nat.mul_lt_mul_of_pos_right h2 (Nat.pow_pos (n := p) BB_pos)
  unfold sumAll
  omega

end Go.Proofs.YtnoelffaccekjaaDoor
