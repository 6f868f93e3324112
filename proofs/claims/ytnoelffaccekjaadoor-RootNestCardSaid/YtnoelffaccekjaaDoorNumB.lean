/- Slices that read as a number, by its value alone: what nat.Sub and quo tell of them. Conditions: at most 40000 limbs; math/bits' table stands in its variable. -/
import Derived.Test.YtnoelffaccekjaaDoorNumA
import Derived.Test.YtnoelffaccekjaaDoorQuo16
namespace Go.Proofs.YtnoelffaccekjaaDoor
open Go.RowKit Go.ChangeShapes Go.WideShapes

/-- Two numbers told, and errno 0. -/
def TwoZ (w : World) (q r : Nat) (e : Ending) (w' : World) : Prop := ∃ v u, e = .returned (.tuple #[v, u, .int .i64 0]) ∧ RdN w' v (digs BB q) ∧ RdN w' u (digs BB r) ∧ Below w.heap.size w w'
theorem div_n {w : World} {v u : Value} {A B Q R : Nat} (h : Num w v A) (k : Num w u B) (hT : Tab w) (h0 : B ≠ 0) (e1 : A / B = Q) (e2 : A % B = R) : Calls Tryd.prog 50 #[v, u] w (TwoZ w Q R) := by
  obtain ⟨l, h1, h2, h3, rfl⟩ := h
  obtain ⟨m, k1, k2, k3, rfl⟩ := k
  have := div_num h1 k1 h2 k2 (by omega) (by omega) hT
  unfold divR at this
  rw [if_neg h0, e1, e2] at this
  exact this
theorem small_n {w : World} {v : Value} {A n Q R : Nat} (h : Num w v A) (hn : n < BB) (h0 : n ≠ 0) (e1 : A / n = Q) (e2 : A % n = R) : Calls Tryd.prog 52 #[v, L64 n] w (fun e w' => ∃ v, e = .returned (.tuple #[v, L64 R, .int .i64 0]) ∧ RdN w' v (digs BB Q) ∧ Below w.heap.size w w') := by
  obtain ⟨l, h1, h2, h3, rfl⟩ := h
  have := qsmall_any (n := n) h1 h2 (by omega) hn
  unfold smallR at this
  rw [if_neg h0, e1, e2] at this
  exact this
end Go.Proofs.YtnoelffaccekjaaDoor
