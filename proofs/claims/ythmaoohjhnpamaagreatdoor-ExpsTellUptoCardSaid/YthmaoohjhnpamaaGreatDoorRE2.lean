/- planimeterref14.Exp by its contract. Conditions: the number is of a middle size. (Only in the seat of ExpsTell: set expsz.) -/
import Derived.Test.YthmaoohjhnpamaaGreatDoorRE1
import Derived.Test.YthmaoohjhnpamaaGreatDoorExpG
import Derived.Test.YthmaoohjhnpamaaGreatDoorSRef3
import Derived.Test.YthmaoohjhnpamaaGreatDoorLRef3
import Derived.Test.YthmaoohjhnpamaaGreatDoorLogA
namespace Go.Proofs.YthmaoohjhnpamaaGreatDoor
set_option maxRecDepth 100000
open Go.RowKit Go.ChangeShapes Go.WideShapes
set_option linter.unusedVariables false
set_option linter.unusedSimpArgs false

/-- planimeterref05.Cmp by values. -/
theorem RCmp_v {w : World} {u u2 : Value} {n1 n2 : Bool} {m1 m2 : Nat} {e1 e2 k : Int} (h : RdD w u (digs DD m1)) (h' : RdD w u2 (digs DD m2)) (ha : Mid k ⟨n1, m1, e1⟩) (hb : Mid k ⟨n2, m2, e2⟩) (hk : k ≤ 50000) :
    Calls Tryz.prog 29 #[.agg #[.bool n1, u, .int .i64 e1], .agg #[.bool n2, u2, .int .i64 e2]] w (fun e w' => ∃ c : Int, e = .returned (.int .i64 c) ∧ ((qv ⟨n1, m1, e1⟩ < qv ⟨n2, m2, e2⟩ ∧ c = -1) ∨ (qv ⟨n1, m1, e1⟩ = qv ⟨n2, m2, e2⟩ ∧ c = 0) ∨ (qv ⟨n2, m2, e2⟩ < qv ⟨n1, m1, e1⟩ ∧ c = 1)) ∧ Below w.heap.size w w') := by
  have a1 := ha.nums
  have b1 := hb.nums
  refine (RCmp_n h h' (by omega) (by omega) (by omega) (by omega) (by omega) (by omega) rfl).mono ?_
  rintro e w' ⟨rfl, hb'⟩
  exact ⟨_, rfl, cmpD_val _ _, hb'⟩

theorem RCmp_yes {w : World} {u u2 : Value} {n1 n2 : Bool} {m1 m2 : Nat} {e1 e2 k : Int} (h : RdD w u (digs DD m1)) (h' : RdD w u2 (digs DD m2)) (ha : Mid k ⟨n1, m1, e1⟩) (hb : Mid k ⟨n2, m2, e2⟩) (hk : k ≤ 50000) (hlt : qv ⟨n2, m2, e2⟩ < qv ⟨n1, m1, e1⟩) :
    Calls Tryz.prog 29 #[.agg #[.bool n1, u, .int .i64 e1], .agg #[.bool n2, u2, .int .i64 e2]] w (fun e w' => ∃ c : Int, e = .returned (.int .i64 c) ∧ decide (0 < c) = true ∧ Below w.heap.size w w') := by
  refine (RCmp_v h h' ha hb hk).mono ?_
  rintro e w' ⟨c, rfl, hc, hb'⟩
  refine ⟨c, rfl, ?_, hb'⟩
  rcases hc with ⟨h1, -⟩ | ⟨h1, -⟩ | ⟨-, h2⟩
  · exact absurd h1 (by grind)
  · exact absurd h1 (by grind)
  · exact decide_eq_true (by omega)
theorem RCmp_not {w : World} {u u2 : Value} {n1 n2 : Bool} {m1 m2 : Nat} {e1 e2 k : Int} (h : RdD w u (digs DD m1)) (h' : RdD w u2 (digs DD m2)) (ha : Mid k ⟨n1, m1, e1⟩) (hb : Mid k ⟨n2, m2, e2⟩) (hk : k ≤ 50000) (hle : qv ⟨n1, m1, e1⟩ ≤ qv ⟨n2, m2, e2⟩) :
    Calls Tryz.prog 29 #[.agg #[.bool n1, u, .int .i64 e1], .agg #[.bool n2, u2, .int .i64 e2]] w (fun e w' => ∃ c : Int, e = .returned (.int .i64 c) ∧ decide (0 < c) = false ∧ Below w.heap.size w w') := by
  refine (RCmp_v h h' ha hb hk).mono ?_
  rintro e w' ⟨c, rfl, hc, hb'⟩
  refine ⟨c, rfl, ?_, hb'⟩
  rcases hc with ⟨-, h2⟩ | ⟨-, h2⟩ | ⟨h1, -⟩
  · exact decide_eq_false (by omega)
  · exact decide_eq_false (by omega)
  · exact absurd h1 (by grind)
theorem RSign_lt {w : World} {u : Value} {n : Bool} {M : Nat} {E : Int} (h : RdD w u (digs DD M)) (hq : qv ⟨n, M, E⟩ < 0) :
    Calls Tryz.prog 20 #[.agg #[.bool n, u, .int .i64 E]] w (fun e w' => e = .returned (.int .i64 (-1)) ∧ Below w.heap.size w w') := by
  refine RSign_n h ?_
  rcases signD_val ⟨n, M, E⟩ with ⟨-, h⟩ | ⟨h, -⟩ | ⟨h, -⟩
  · exact h
  · exact absurd h (by grind)
  · exact absurd h (by grind)
theorem RSign_nn {w : World} {u : Value} {n : Bool} {M : Nat} {E : Int} (h : RdD w u (digs DD M)) (hq : 0 ≤ qv ⟨n, M, E⟩) :
    Calls Tryz.prog 20 #[.agg #[.bool n, u, .int .i64 E]] w (fun e w' => ∃ s : Int, e = .returned (.int .i64 s) ∧ decide (s < 0) = false ∧ Below w.heap.size w w') := by
  refine (RSign_n (neg := n) (E := E) h rfl).mono ?_
  rintro e w' ⟨rfl, hb⟩
  refine ⟨_, rfl, decide_eq_false ?_, hb⟩
  rcases signD_val ⟨n, M, E⟩ with ⟨h, -⟩ | ⟨-, h⟩ | ⟨-, h⟩
  · exact absurd h (by grind)
  · omega
  · omega
theorem refTwo_bits {m : Nat} (hm : m ≤ 480) : bitN (refTwoU m * 2) ≤ 495 := by
  have h1 : bitN (refTwoU m) ≤ 494 := Nat.le_trans (refAt_bits (by omega) (by omega)) (by omega)
  have q := bitN_lt (refTwoU m)
  have : 2 ^ (bitN (refTwoU m) + 1) = 2 ^ bitN (refTwoU m) * 2 := by rw [Nat.pow_succ]
  exact Nat.le_trans (bitN_le.2 (show refTwoU m * 2 < 2 ^ (bitN (refTwoU m) + 1) by omega)) (by omega)

/-- The first loop's state: so often ln 2 was added. -/
def Left1 (V t : Rat) (w2 : World) (b7 : Nat) (kv : Value) (wr : World) : Prop :=
  ∃ (j : Nat) (n' : Bool) (M' : Nat) (E' : Int) (a' : Option Addr) (k' : Nat), kv = .int .i64 (-(j : Int)) ∧ Blk wr b7 #[.bool n', .slice a' (digs DD M').length k', .int .i64 E'] ∧ RdD wr (.slice a' (digs DD M').length k') (digs DD M') ∧
    (qv ⟨n', M', E'⟩ = V + (j : Rat) * t ∧ Mid (20000 + j) ⟨n', M', E'⟩ ∧ (j = 0 ∨ qv ⟨n', M', E'⟩ < t) ∧ j ≤ 1708) ∧ Below w2.heap.size w2 wr
/-- The second loop's state: so often ln 2 was taken off, behind j0 additions. -/
def Left2 (V t : Rat) (j0 : Nat) (w2 : World) (b7 b8 : Nat) (c8 : Array Value) (kv : Value) (wr : World) : Prop :=
  ∃ (i : Nat) (n' : Bool) (M' : Nat) (E' : Int) (a' : Option Addr) (k' : Nat), kv = .int .i64 ((i : Int) - (j0 : Int)) ∧ Blk wr b7 #[.bool n', .slice a' (digs DD M').length k', .int .i64 E'] ∧ RdD wr (.slice a' (digs DD M').length k') (digs DD M') ∧
    (qv ⟨n', M', E'⟩ = V + (j0 : Rat) * t - (i : Rat) * t ∧ 0 ≤ qv ⟨n', M', E'⟩ ∧ Mid (21800 + i) ⟨n', M', E'⟩ ∧ i ≤ 1708 ∧ (j0 = 0 ∨ (i = 0 ∧ qv ⟨n', M', E'⟩ < t))) ∧ Blk wr b8 c8 ∧ Below w2.heap.size w2 wr
theorem units_small {Mu m : Nat} (h : (Mu : Rat) * pw (-(m : Int)) ≤ 1) : Mu ≤ 2 ^ m := by
  refine rq_unle ?_
  have h3 := Rat.mul_le_mul_of_nonneg_right h (Rat.le_of_lt (rq_nat_pos (Nat.two_pow_pos m)))
  rw [Rat.mul_assoc, Rat.mul_comm (pw _), pw_unit, Rat.mul_one, Rat.one_mul] at h3
  exact h3
/-- What is left when both loops have ended. -/
theorem left_told {V t : Rat} {m i j M' : Nat} {n' : Bool} {E' : Int} (ht : t ≤ 7 / 10) (h1 : qv ⟨n', M', E'⟩ = V + (j : Rat) * t - (i : Rat) * t) (h2 : 0 ≤ qv ⟨n', M', E'⟩) (h3 : qv ⟨n', M', E'⟩ ≤ t) (hi : i ≤ 1708) (hj : j ≤ 1708) : TwoLeft V t m ((i : Int) - (j : Int)) (unitsN M' E' m false) := by
  obtain ⟨g1, g2⟩ := left_units (m := m) h2
  have e : (((i : Int) - (j : Int) : Int) : Rat) = (i : Rat) - (j : Rat) := by rw [Rat.intCast_sub]; rfl
  refine ⟨by omega, units_small (by grind), ?_, ?_⟩ <;> rw [e] <;> grind
end Go.Proofs.YthmaoohjhnpamaaGreatDoor
