/- Slices that read as a number, by its value alone: what nat and prod tell of them. Conditions: at most 40000 limbs. -/
import Derived.Test.YtnoelffaccekjaaDoorLawBase
import Derived.Test.YtnoelffaccekjaaDoorCmp2
namespace Go.Proofs.YtnoelffaccekjaaDoor
open Go.RowKit Go.ChangeShapes Go.WideShapes

/-- A slice of limbs that are the number n, perhaps with noughts at the top. -/
def Num (w : World) (v : Value) (n : Nat) : Prop := ∃ l, RdN w v l ∧ Dig BB l ∧ l.length ≤ 40000 ∧ val BB l = n
theorem Num.below {w w' : World} {v : Value} {n : Nat} (h : Num w v n) (hb : Below w.heap.size w w') : Num w' v n := by
  obtain ⟨l, h1, h2⟩ := h; exact ⟨l, h1.below hb, h2⟩
theorem RdN.num {w : World} {v : Value} {n : Nat} (h : RdN w v (digs BB n)) (hn : bitN n ≤ 2560000) : Num w v n :=
  ⟨_, h, dig_digs BB_two n, digs_short (k := 40000) (by omega), val_digs BB_two n⟩
theorem RdN.numl {w : World} {v : Value} {l : List Nat} (h : RdN w v l) (d : Dig BB l) (hl : l.length ≤ 40000) : Num w v (val BB l) := ⟨l, h, d, hl, rfl⟩
theorem RdN.num1 {w : World} {v : Value} {n : Nat} (h : RdN w v [n]) (hn : n < BB) : Num w v n := ⟨[n], h, Dig.cons hn (Dig.nil _), by simp, val_one _ n⟩
theorem RdN.num20 {w : World} {v : Value} {n : Nat} (h : RdN w v [n, 0]) (hn : n < BB) : Num w v n :=
  ⟨[n, 0], h, Dig.cons hn (Dig.cons (by decide) (Dig.nil _)), by simp, by show n + BB * (0 + BB * 0) = n; omega⟩
theorem Num.nil (w : World) : Num w (.slice none 0 0) 0 := ⟨[], RdN.nil w, Dig.nil _, by simp, rfl⟩
/-- What reads as nothing has no length. -/
theorem RdN.none {w : World} {v : Value} (h : RdN w v (digs BB 0)) : ∃ a k, v = .slice a 0 k := by
  rw [digs_zero] at h
  obtain ⟨a, k, h1, -⟩ := h.view
  exact ⟨a, k, h1⟩
theorem RdN.some {w : World} {v : Value} {n : Nat} (h : RdN w v (digs BB n)) (hn : n ≠ 0) : ∃ a, ∃ m : Nat, ∃ k, v = .slice a m k ∧ 0 < m ∧ m = (digs BB n).length := by
  obtain ⟨a, k, h1, -⟩ := h.view
  exact ⟨a, _, k, h1, List.length_pos_iff.2 (fun e => hn ((digs_nil_iff BB_two _).1 e)), rfl⟩
theorem Num.bound {w : World} {v : Value} {n : Nat} (h : Num w v n) : bitN n ≤ 2560000 := by
  obtain ⟨l, -, d, hl, rfl⟩ := h
  exact val_bits d hl

theorem eq_zero_of_bitN {n : Nat} (h : bitN n = 0) : n = 0 := by
  have := bitN_lt n
  rw [h] at this; omega
/-- One number told, and errno 0. -/
def OneZ (w : World) (n : Nat) (e : Ending) (w' : World) : Prop := ∃ v, e = .returned (.tuple #[v, .int .i64 0]) ∧ RdN w' v (digs BB n) ∧ Below w.heap.size w w'

theorem add_n {w : World} {v u : Value} {A B C : Nat} (h : Num w v A) (k : Num w u B) (e : A + B = C) : Calls Tryd.prog 18 #[v, u] w (One w (digs BB C)) := by
  obtain ⟨l, h1, h2, h3, rfl⟩ := h
  obtain ⟨m, k1, k2, k3, rfl⟩ := k
  subst e
  exact add_any h1 k1 h2 k2 (by omega) (by omega)
theorem mul_n {w : World} {v u : Value} {A B C : Nat} (h : Num w v A) (k : Num w u B) (e : A * B = C) (hs : bitN A + bitN B ≤ 65536) : Calls Tryd.prog 55 #[v, u] w (OneZ w C) := by
  obtain ⟨l, h1, h2, h3, rfl⟩ := h
  obtain ⟨m, k1, k2, k3, rfl⟩ := k
  subst e
  have := mul_any h1 k1 h2 k2 (by omega) (by omega)
  rw [mulR_small hs] at this
  exact this
theorem cmp_n {w : World} {v u : Value} {A B : Nat} {c : Int} (h : Num w v A) (k : Num w u B) (e : cmpN A B = c) : Calls Tryd.prog 17 #[v, u] w (fun e w' => e = .returned (.int .i64 c) ∧ Below w.heap.size w w') := by
  obtain ⟨l, h1, h2, h3, rfl⟩ := h
  obtain ⟨m, k1, k2, k3, rfl⟩ := k
  subst e
  exact cmp_any h1 k1 h2 k2 (by omega) (by omega)
theorem bits_n {w : World} {v : Value} {A b : Nat} (h : Num w v A) (e : bitN A = b) : Calls Tryd.prog 21 #[v] w (fun e w' => e = .returned (.int .i64 (b : Int)) ∧ Below w.heap.size w w') := by
  obtain ⟨l, h1, h2, h3, rfl⟩ := h
  subst e
  exact bits_num h1 h2 (by omega)
theorem bits_z {w : World} {v : Value} (h : Num w v 0) : Calls Tryd.prog 21 #[v] w (fun e w' => e = .returned (.int .i64 0) ∧ Below w.heap.size w w') := bits_n h bitN_zero
theorem bare_n {w : World} {v : Value} {A : Nat} (h : Num w v A) : Calls Tryd.prog 23 #[v] w (One w (digs BB A)) := by
  obtain ⟨l, h1, h2, h3, rfl⟩ := h
  exact bare_num h1 h2 (by omega)
theorem same_n {w : World} {v u : Value} {n m : Nat} (h : RdN w v (digs BB n)) (k : RdN w u (digs BB m)) (e : n = m) : Calls Tryd.prog 22 #[v, u] w (fun e w' => e = .returned (.bool true) ∧ Below w.heap.size w w') := by
  subst e
  have := same_any h k
  rw [decide_eq_true rfl] at this
  exact this
end Go.Proofs.YtnoelffaccekjaaDoor
