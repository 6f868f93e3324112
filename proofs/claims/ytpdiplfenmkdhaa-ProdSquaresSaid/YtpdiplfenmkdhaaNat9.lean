/- prod.Sum by its contract. Conditions: the lists are short, the limbs are limbs. -/
import Derived.Test.YtpdiplfenmkdhaaNat8
namespace Go.Proofs.Ytpdiplfenmkdhaa
open Go.RowKit

/-- A slice of numbers: each reads as a list of limbs. -/
structure RdNs (w : World) (v : Value) (vs : List Value) (ls : List (List Nat)) : Prop where
  rd : Rd (fun _ => True) w v vs
  len : vs.length = ls.length
  all : ∀ j, j < vs.length → ∀ l, ls[j]? = some l → RdN w (vs[j]?.getD undef) l
theorem RdNs.below {w w' : World} {v : Value} {vs : List Value} {ls : List (List Nat)} (h : RdNs w v vs ls) (hb : Below w.heap.size w w') : RdNs w' v vs ls :=
  ⟨Rd.below h.rd hb, h.len, fun j hj l hl => (h.all j hj l hl).below hb⟩

/-- The sum of all. -/
def sumAll (ls : List (List Nat)) : Nat := (ls.map (val BB)).sum

theorem sumAll_take (ls : List (List Nat)) (k : Nat) (h : k < ls.length) : sumAll (ls.take (k + 1)) = sumAll (ls.take k) + val BB ls[k] := by
  unfold sumAll
  rw [List.take_succ_eq_append_getElem h, List.map_append, List.sum_append]; simp

theorem add_num {w : World} {v u : Value} {S : Nat} {m : List Nat} (hl : RdN w v (digs BB S)) (hm : RdN w u m) (hdm : Dig BB m) (h1 : (digs BB S).length ≤ 50000) (h2 : m.length ≤ 50000) :
    Calls Try.prog 22 #[v, u] w (One w (digs BB (S + val BB m))) := by
  have := add_any hl hm (dig_digs BB_two _) hdm h1 h2
  rw [val_digs BB_two] at this
  exact this

/-- A sum of so many short ones is short. -/
theorem sum_short {b p : Nat} (hb : 2 ≤ b) : ∀ {ls : List (List Nat)}, (∀ l ∈ ls, Dig b l ∧ l.length ≤ p) → (ls.map (val b)).sum ≤ ls.length * b ^ p
  | [], _ => by simp
  | l :: ls, h => by
    have ih := sum_short (p := p) hb (ls := ls) (fun m hm => h m (by simp [hm]))
    have h1 := val_lt (h l (by simp)).1
    have h2 := Nat.pow_le_pow_right (n := b) (by omega) (h l (by simp)).2
    simp only [List.map_cons, List.sum_cons, List.length_cons, Nat.add_mul, Nat.one_mul]
    omega

theorem sum_len {p : Nat} {ls : List (List Nat)} (h : ∀ l ∈ ls, Dig BB l ∧ l.length ≤ p) (hn : ls.length < BB) (k : Nat) : (digs BB (sumAll (ls.take k))).length ≤ p + 1 := by
  rw [digs_length_le BB_two, Nat.pow_succ, Nat.mul_comm]
  have h1 := sum_short (p := p) BB_two (ls := ls.take k) (fun m hm => h m (List.mem_of_mem_take hm))
  have h2 : (ls.take k).length < BB := by rw [List.length_take]; omega
  have h3 := Nat.mul_lt_mul_of_pos_right h2 (Nat.pow_pos (n := p) BB_pos)
  unfold sumAll
  omega

set_option maxHeartbeats 400000 in
theorem sum_any {w : World} {v : Value} {vs : List Value} {ls : List (List Nat)} (h : RdNs w v vs ls) (hd : ∀ l ∈ ls, Dig BB l ∧ l.length ≤ 40000) (hn : ls.length ≤ 1000) :
    Calls Try.prog 19 #[v] w (One w (digs BB (sumAll ls))) := by
  obtain ⟨a, c, rfl, hac, hc, -, -⟩ := h.rd.view
  have hlen := h.len
  rw [hlen] at hac h ⊢
  have hlen := Lib.hid hlen
  unfold maxLen at hc
  have HS := Lib.hid (sum_len hd (by unfold BB; omega))
  have HH := Lib.hid h; clear h
  go_enter Try.func19, Try.ntmps19
  go_wp2
  go_loopw [8, 3] (fun i u wr => ∃ (k : Nat), i = .int .i64 k ∧ k ≤ ls.length ∧ RdN wr u (digs BB (sumAll (ls.take k))) ∧ Below w.heap.size w wr) (fun i _ _ => ls.length - (intOf i).toNat)
  case atStart => exact ⟨0, rfl, Nat.zero_le _, RdN.nil0 _, Below.refl _ _⟩
  case round =>
    obtain ⟨k, rfl, hk, hr, hB⟩ := hrel
    by_cases hkn : k < ls.length
    · have H2 := HH.out.below hB
      obtain ⟨a', c', e1, -, -, -, hcell⟩ := H2.rd.view
      injection e1 with e1 e2 e3; subst e1 e3
      obtain ⟨g, of, rfl, hg, -, hcell⟩ := hcell k (by rw [hlen.out]; exact hkn)
      have hr2 := H2.all k (by rw [hlen.out]; exact hkn) ls[k] (List.getElem?_eq_getElem hkn)
      generalize vs[k]?.getD undef = u2 at hcell hr2
      have hdl := hd ls[k] (List.getElem_mem hkn)
      have HA := add_num hr hr2 hdl.1 (Nat.le_trans (HS.out k) (by omega)) (by omega)
      rw [← sumAll_take ls k hkn] at HA
      clear H2 e2 hr2 hr
      go_wp2_with (go_at_call 22; (with_reducible refine HA.mono ?_); rintro e w6 ⟨v6, rfl, hr6, hb6⟩)
      go_round
      case rel => exact ⟨k + 1, by go_num, hkn, hr6, hB.trans (hb6.mono hB.size)⟩
      case measure => simp [intOf]; omega
    · have hkl : k = ls.length := by omega
      rw [hkl, List.take_length] at hr
      go_wp2
      go_ret
      exact ⟨_, rfl, hr, hB⟩
end Go.Proofs.Ytpdiplfenmkdhaa
