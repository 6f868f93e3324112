/- What a law is told of a slice of integers that came in, and small facts on owned rows. Conditions: none. -/
import Derived.Test.YtkbcfagggjfhhaaChecked
import Derived.WalkKit
import Derived.OwnWalk
import Derived.Lib.Hide
import Derived.ProofKit
namespace Go.Proofs.Ytkbcfagggjfhhaa
set_option maxRecDepth 100000
open Go.RowKit Go.ChangeShapes Go.WideShapes

/-- What the walk is told of a slice of integers that came in. -/
def IsRow (k : IntKind) (w : World) (a : Option Addr) (len cap : Nat) (zs : List Int) : Prop :=
  (a = none ∧ len = 0 ∧ cap = 0 ∧ zs = []) ∨
  ∃ x, a = some x ∧ len ≤ cap ∧ cap ≤ maxLen ∧ zs.length = cap ∧ (∀ i, i < zs.length → w.cell? (x.add i) = some (.int k (zs.getD i 0))) ∧ ∀ n ∈ zs, (Lit.int k n).wf = true

theorem IsRow.view {k : IntKind} {w : World} {a : Option Addr} {len cap : Nat} {zs : List Int} (h : IsRow k w a len cap zs) :
    ∀ i, i < len → ∃ b off, a = some ⟨b, off, none⟩ ∧ b < w.heap.size ∧ w.cell? ⟨b, off + i, none⟩ = some (.int k (zs[i]?.getD 0)) ∧ (Lit.int k (zs[i]?.getD 0)).wf = true := by
  intro i hi
  rcases h with ⟨_, rfl, _⟩ | ⟨⟨b, off, sp⟩, rfl, hl, hm, hz, hc, hw⟩
  · omega
  · have hc' := hc i (by omega)
    have hs : sp = none := by simpa [Addr.add] using World.cell?_spot (hc 0 (by omega))
    subst hs
    rw [add_plain, List.getD_eq_getElem?_getD] at hc'
    refine ⟨b, off, rfl, World.block_lt_of_cell? w _ hc', hc', ?_⟩
    have hi' : i < zs.length := by omega
    rw [List.getElem?_eq_getElem hi', Option.getD_some]
    exact hw _ (List.getElem_mem hi')
theorem IsRow.le {k : IntKind} {w : World} {a : Option Addr} {len cap : Nat} {zs : List Int} (h : IsRow k w a len cap zs) : len ≤ zs.length ∧ len ≤ 9223372036854775807 := by
  rcases h with ⟨_, rfl, _⟩ | ⟨x, rfl, hl, hm, hz, _⟩
  · omega
  · unfold maxLen at hm; omega

/-- An owned row as a slice whose cells are known. -/
theorem own_view {w : World} {base : Nat} {e : TypeId} {v : Value} {n : Nat} {xs : List Value} (h : w.ownsRow base e 1 v n xs) :
    ∃ a c, v = .slice a n c ∧ (∀ j, j < n → ∃ g, a = some ⟨g, 0, none⟩ ∧ w.cell? ⟨g, j, none⟩ = xs[j]?) ∧ (a = none → c = 0) := by
  rcases h.2 with ⟨rfl, rfl⟩ | ⟨g, cap, cur, rfl, _⟩
  · exact ⟨none, 0, rfl, fun j hj => by omega, fun _ => rfl⟩
  · refine ⟨_, cap, rfl, fun j hj => ⟨g, rfl, h.cellAt j (by omega)⟩, fun h => by cases h⟩

/-- The sum of some integers. -/
def isum : List Int → Int
  | [] => 0
  | x :: l => x + isum l
theorem isum_append (l m : List Int) : isum (l ++ m) = isum l + isum m := by
  induction l with
  | nil => simp [isum]
  | cons x l ih => simp only [List.cons_append, isum, ih]; omega
theorem isum_bd (B : Int) (l : List Int) (h : ∀ x ∈ l, 0 ≤ x ∧ x ≤ B) : 0 ≤ isum l ∧ isum l ≤ B * (l.length : Int) := by
  induction l with
  | nil => simp [isum]
  | cons x l ih =>
    have h1 := h x (by simp)
    have h2 := ih (fun y hy => h y (by simp [hy]))
    simp only [isum, List.length_cons]
    have : B * ((l.length + 1 : Nat) : Int) = B * (l.length : Int) + B := by rw [Int.natCast_add, Int.mul_add]; simp
    rw [this]; omega
theorem isum_drop (l : List Int) (k : Nat) (h : k < l.length) : isum (l.drop k) = l[k]?.getD 0 + isum (l.drop (k + 1)) := by
  rw [List.drop_eq_getElem_cons h, isum, List.getElem?_eq_getElem h, Option.getD_some]
end Go.Proofs.Ytkbcfagggjfhhaa
