/- series.Atanh of any fraction, nought too; orders by nat.Cmp. Conditions: the numbers are short; math/bits' table stands in its variable. -/
import Derived.Test.YtecgimdgmilcbaaDoorSer7
import Derived.Test.YtecgimdgmilcbaaDoorSer9
namespace Go.Proofs.YtecgimdgmilcbaaDoor
set_option maxRecDepth 100000
open Go.RowKit
set_option linter.unusedVariables false
theorem Atanh_any {w : World} {v u : Value} {A B s : Nat} (h : Num w v A) (k : Num w u B) (hT : Tab w) (s1 : 8 ≤ s) (s2 : s ≤ 9000) (sA : bitN A ≤ 4096) (sB : bitN B ≤ 4096) (hB : 0 < B) (h3 : 3 * A ≤ B) :
    Calls Tryd.prog 8 #[v, u, .int .i64 (s : Int)] w fun e w' => ∃ vl vh L H, e = .returned (.tuple #[vl, vh, .int .i64 0]) ∧ RdN w' vl (digs BB L) ∧ RdN w' vh (digs BB H) ∧ AtOk A B s L H ∧ Below w.heap.size w w' := by
  by_cases hA : A = 0
  · subst hA
    refine (Atanh_zero h k s1 s2 sB hB).mono ?_
    rintro e w' ⟨rfl, hb⟩
    exact ⟨_, _, 0, 0, rfl, RdN.nil0 _, RdN.nil0 _, atOk_zero (by omega), hb⟩
  · exact Atanh_ok h k hT s1 s2 sA sB hA hB h3
theorem ncmp_gt {w : World} {v u : Value} {A B : Nat} (h : Num w v A) (k : Num w u B) (e : A ≤ B) : Calls Tryd.prog 22 #[v, u] w (fun e w' => ∃ c, e = .returned (.int .i64 c) ∧ decide (0 < c) = false ∧ Below w.heap.size w w') := by
  refine (cmp_n h k rfl).mono ?_
  rintro e w1 ⟨rfl, h1⟩
  exact ⟨_, rfl, decide_eq_false (by have := cmpN_le' (show A ≤ B from ‹_›); omega), h1⟩
theorem ncmp_leq {w : World} {v u : Value} {A B : Nat} (h : Num w v A) (k : Num w u B) (e : A ≤ B) : Calls Tryd.prog 22 #[v, u] w (fun e w' => ∃ c, e = .returned (.int .i64 c) ∧ decide (c ≤ 0) = true ∧ Below w.heap.size w w') := by
  refine (cmp_n h k rfl).mono ?_
  rintro e w1 ⟨rfl, h1⟩
  exact ⟨_, rfl, decide_eq_true (cmpN_le' (show A ≤ B from ‹_›)), h1⟩
theorem rcmp_gt {w : World} {v u : Value} {A B : Nat} (h : RdD w v (digs DD A)) (k : RdD w u (digs DD B)) (e : A ≤ B) (sA : bitN A ≤ 400000) : Calls Tryd.prog 13 #[v, u] w (fun e w' => ∃ c, e = .returned (.int .i64 c) ∧ decide (0 < c) = false ∧ Below w.heap.size w w') := by
  refine (rcmp_n h k rfl sA).mono ?_
  rintro e w1 ⟨rfl, h1⟩
  exact ⟨_, rfl, decide_eq_false (by have := cmpN_le' (show A ≤ B from ‹_›); omega), h1⟩
theorem _root_.Go.Proofs.YtecgimdgmilcbaaDoor.ExOk.size {A B s L H : Nat} (h : ExOk A B s L H) (s2 : s ≤ 9000) : bitN L ≤ 20000 ∧ bitN H ≤ 20000 := by
  have h0 := Nat.two_pow_pos s
  have h1 := h.short
  have h2 := h.le
  have h3 : (s + 4) * 2 ^ s ≤ 9004 * 2 ^ s := Nat.mul_le_mul_right _ (by omega)
  have hb : ∀ x, x ≤ 20000 * 2 ^ s → bitN x ≤ 20000 := fun x hx => Nat.le_trans (bitN_le.2 (show x < 2 ^ (s + 15) by rw [Nat.pow_add]; omega)) (by omega)
  exact ⟨hb _ (by omega), hb _ (by omega)⟩
end Go.Proofs.YtecgimdgmilcbaaDoor
