/- series.Exp refused, by its contracts. Conditions: the numbers are short. -/
import Derived.Test.YtecgimdgmilcbaaDoorSer8
namespace Go.Proofs.YtecgimdgmilcbaaDoor
set_option maxRecDepth 100000
open Go.RowKit Go.ChangeShapes Go.WideShapes
set_option linter.unusedVariables false
section
variable {w : World} {v u : Value} {A B : Nat}
theorem cmpN_gt' {a b : Nat} (h : b < a) : 0 < cmpN a b := by
  unfold cmpN
  rw [if_neg (by omega), if_neg (by omega)]; decide
theorem Exp_scale {s : Int} (h : Num w v A) (k : Num w u B) (hs : s < 8 ∨ 9000 < s) :
    Calls Tryd.prog 18 #[v, u, .int .i64 s] w fun e w' => e = .returned (.tuple #[.slice none 0 0, .slice none 0 0, .int .i64 1]) ∧ Below w.heap.size w w' := by
  have HN := Lib.hid (fun w => scale_no (w := w) hs)
  clear hs
  go_enter Tryd.func18, Tryd.ntmps18
  go_wp2_with
  (first
    | (go_at_call 32; (with_reducible refine (HN.out _).mono ?_); rintro e w1 ⟨rfl, rfl⟩)
    | fail)
  go_ret3
  exact ⟨rfl, Below.refl _ _⟩
theorem Exp_order {s : Nat} (h : Num w v A) (k : Num w u B) (s1 : 8 ≤ s) (s2 : s ≤ 9000) (hAB : B < A) :
    Calls Tryd.prog 18 #[v, u, .int .i64 (s : Int)] w fun e w' => e = .returned (.tuple #[.slice none 0 0, .slice none 0 0, .int .i64 1]) ∧ Below w.heap.size w w' := by
  obtain ⟨c1, e1⟩ : ∃ c, cmpN A B = c := ⟨_, rfl⟩
  have dc1 : decide (0 < c1) = true := decide_eq_true (by have := cmpN_gt' hAB; omega)
  have E1 := Lib.hid e1
  clear e1
  go_enter Tryd.func18, Tryd.ntmps18
  go_wp2_with
  (first
    | (go_at_call 32; (with_reducible refine (scale_ok s1 s2).mono ?_); rintro e w1 ⟨rfl, rfl⟩)
    | (go_at_call 22; (with_reducible refine (cmp_n h k E1.out).mono ?_); rintro e w2 ⟨rfl, hb2⟩; have B2 := hb2; have m2 := h.below hb2; have g2 := k.below hb2; clear h k)
    | fail)
  go_ret3
  exact ⟨rfl, B2⟩
theorem Exp_great {s : Nat} (h : Num w v A) (k : Num w u B) (s1 : 8 ≤ s) (s2 : s ≤ 9000) (hAB : A ≤ B) (hB : 2 ^ s < B) :
    Calls Tryd.prog 18 #[v, u, .int .i64 (s : Int)] w fun e w' => e = .returned (.tuple #[.slice none 0 0, .slice none 0 0, .int .i64 1]) ∧ Below w.heap.size w w' := by
  obtain ⟨c1, e1⟩ : ∃ c, cmpN A B = c := ⟨_, rfl⟩
  have dc1 : decide (0 < c1) = false := decide_eq_false (by have := cmpN_le' hAB; omega)
  obtain ⟨c2, e2⟩ : ∃ c, cmpN B (2 ^ s) = c := ⟨_, rfl⟩
  have dc2 : decide (0 < c2) = true := decide_eq_true (by have := cmpN_gt' hB; omega)
  have sS : bitN (2 ^ s) ≤ 9010 := bits_s s2 (by omega)
  have HSH : Hid (∀ w v, Num w v 1 → Calls Tryd.prog 17 #[v, .int .i64 (s : Int)] w (OneZ w (2 ^ s))) := Lib.hid (fun w v h => shl_n (n := s) h (Nat.one_mul _) (by rw [bitN_one]; omega))
  have E1 := Lib.hid e1; have E2 := Lib.hid e2
  clear e1 e2
  go_enter Tryd.func18, Tryd.ntmps18
  go_wp2_with
  (first
    | (go_at_call 32; (with_reducible refine (scale_ok s1 s2).mono ?_); rintro e w1 ⟨rfl, rfl⟩)
    | (go_at_call 22; (with_reducible refine (cmp_n h k E1.out).mono ?_); rintro e w2 ⟨rfl, hb2⟩; have B2 := hb2; have m2 := h.below hb2; have g2 := k.below hb2; clear h k)
    | (go_at_call 46; (with_reducible refine (of_1).mono ?_); rintro e w3 ⟨vo3, rfl, o3, hb3⟩; have B3 := B2.trans (hb3.mono B2.size); have m3 := m2.below hb3; have g3 := g2.below hb3; clear m2 g2)
    | (go_at_call 17; (with_reducible refine (HSH.out _ _ (o3.num (by rw [bitN_one]; omega))).mono ?_); rintro e w4 ⟨vs4, rfl, s4, hb4⟩; have B4 := B3.trans (hb4.mono B3.size); have m4 := m3.below hb4; have g4 := g3.below hb4; have o4 := o3.below hb4; clear m3 g3 o3; obtain ⟨as4, ks4, rfl, -⟩ := s4.view; try simp only [List.length_nil] at s4)
    | (go_at_call 22; (with_reducible refine (cmp_n g4 (s4.num (by omega)) E2.out).mono ?_); rintro e w5 ⟨rfl, hb5⟩; have B5 := B4.trans (hb5.mono B4.size); have m5 := m4.below hb5; have g5 := g4.below hb5; have o5 := o4.below hb5; have s5 := s4.below hb5; clear m4 g4 o4 s4)
    | fail)
  go_ret3
  exact ⟨rfl, B5⟩
theorem Exp_arg {s : Int} (h : Num w v A) (k : Num w u B) (hs : ¬ (8 ≤ s ∧ s ≤ 9000) ∨ B < A ∨ 2 ^ s.toNat < B) :
    Calls Tryd.prog 18 #[v, u, .int .i64 s] w fun e w' => e = .returned (.tuple #[.slice none 0 0, .slice none 0 0, .int .i64 1]) ∧ Below w.heap.size w w' := by
  by_cases h1 : 8 ≤ s ∧ s ≤ 9000
  · obtain ⟨n, rfl⟩ : ∃ n : Nat, s = (n : Int) := ⟨s.toNat, by omega⟩
    by_cases h2 : B < A
    · exact Exp_order h k (by omega) (by omega) h2
    · refine Exp_great h k (by omega) (by omega) (by omega) ?_
      rcases hs with h | h | h
      · exact absurd h1 h
      · exact absurd h h2
      · exact h
  · exact Exp_scale h k (by omega)
end
end Go.Proofs.YtecgimdgmilcbaaDoor
