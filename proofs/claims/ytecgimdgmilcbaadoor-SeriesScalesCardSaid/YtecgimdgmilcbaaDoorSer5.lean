/- series.Atanh by its contracts: of nothing; and refused. Conditions: the numbers are short. -/
import Derived.Test.YtecgimdgmilcbaaDoorSer4
namespace Go.Proofs.YtecgimdgmilcbaaDoor
set_option maxRecDepth 100000
open Go.RowKit Go.ChangeShapes Go.WideShapes
set_option linter.unusedVariables false
section
variable {w : World} {v u : Value} {A B s : Nat}

theorem Atanh_zero (h : Num w v 0) (k : Num w u B) (s1 : 8 ≤ s) (s2 : s ≤ 9000) (sB : bitN B ≤ 4096) (hB : 0 < B) :
    Calls Tryd.prog 8 #[v, u, .int .i64 (s : Int)] w fun e w' => e = .returned (.tuple #[.slice none 0 0, .slice none 0 0, .int .i64 0]) ∧ Below w.heap.size w w' := by
  obtain ⟨bB, eB⟩ : ∃ b, bitN B = b := ⟨_, rfl⟩
  have nB : bB ≠ 0 := fun e => by have := eq_zero_of_bitN (eB.trans e); omega
  obtain ⟨c, ec⟩ : ∃ c, cmpN 0 B = c := ⟨_, rfl⟩
  have dc : decide (0 < c) = false := decide_eq_false (by have := cmpN_le' (show 0 ≤ B by omega); omega)
  have d2 : decide (4096 < (bB : Int)) = false := decide_eq_false (by omega)
  have d3 : ((bB : Int) == 0) = false := beq_false_of_ne (by omega)
  have HT3 : Hid (Calls Tryd.prog 31 #[v, .int .u64 3] w (OneZ w 0)) := Lib.hid (times_n (n := 3) h (by decide) rfl (by have : bitN 3 ≤ 2 := bitN_le.2 (by decide); have : bitN 0 = 0 := bitN_zero; omega))
  have eB' := Lib.hid eB; have ec' := Lib.hid ec
  clear eB ec
  go_enter Tryd.func8, Tryd.ntmps8
  go_wp2_with
  (first
    | (go_at_call 31; (with_reducible refine (HT3.out).mono ?_); rintro e w1 ⟨vt1, rfl, t1, hb1⟩; have B1 := hb1; have m1 := h.below hb1; have g1 := k.below hb1; clear h k)
    | (go_at_call 32; (with_reducible refine (scale_ok s1 s2).mono ?_); rintro e w2 ⟨rfl, rfl⟩)
    | (go_at_call 33; (with_reducible refine (bits_n m1 bitN_zero).mono ?_); rintro e w3 ⟨rfl, hb3⟩; have B3 := B1.trans (hb3.mono B1.size); have m3 := m1.below hb3; have g3 := g1.below hb3; have t3 := t1.below hb3; clear m1 g1 t1)
    | (go_at_call 33; (with_reducible refine (bits_n g3 eB'.out).mono ?_); rintro e w4 ⟨rfl, hb4⟩; have B4 := B3.trans (hb4.mono B3.size); have m4 := m3.below hb4; have g4 := g3.below hb4; have t4 := t3.below hb4; clear m3 g3 t3)
    | (go_at_call 33; (with_reducible refine (bits_n g4 eB'.out).mono ?_); rintro e w5 ⟨rfl, hb5⟩; have B5 := B4.trans (hb5.mono B4.size); have m5 := m4.below hb5; have g5 := g4.below hb5; have t5 := t4.below hb5; clear m4 g4 t4)
    | (go_at_call 22; (with_reducible refine (cmp_n (t5.num (by rw [bitN_zero]; omega)) g5 ec'.out).mono ?_); rintro e w6 ⟨rfl, hb6⟩; have B6 := B5.trans (hb6.mono B5.size); have m6 := m5.below hb6; have g6 := g5.below hb6; have t6 := t5.below hb6; clear m5 g5 t5)
    | (go_at_call 33; (with_reducible refine (bits_n m6 bitN_zero).mono ?_); rintro e w7 ⟨rfl, hb7⟩; have B7 := B6.trans (hb7.mono B6.size); have m7 := m6.below hb7; have g7 := g6.below hb7; have t7 := t6.below hb7; clear m6 g6 t6)
    | fail)
  go_ret3
  exact ⟨rfl, B7⟩

theorem Atanh_arg {s : Int} (h : Num w v A) (k : Num w u B) (sA : bitN A ≤ 60000) (hs : ¬ (8 ≤ s ∧ s ≤ 9000) ∨ 4096 < bitN A ∨ 4096 < bitN B ∨ B = 0 ∨ B < 3 * A) :
    Calls Tryd.prog 8 #[v, u, .int .i64 s] w fun e w' => e = .returned (.tuple #[.slice none 0 0, .slice none 0 0, .int .i64 1]) ∧ Below w.heap.size w w' := by
  have HT3 : Hid (Calls Tryd.prog 31 #[v, .int .u64 3] w (OneZ w (A * 3))) := Lib.hid (times_n (n := 3) h (by decide) rfl (by have : bitN 3 ≤ 2 := bitN_le.2 (by decide); omega))
  have s3 : bitN (A * 3) ≤ 2560000 := Nat.le_trans (bitN_mul_le _ _) (by have : bitN 3 ≤ 2 := bitN_le.2 (by decide); omega)
  obtain ⟨bA, eA⟩ : ∃ b, bitN A = b := ⟨_, rfl⟩
  obtain ⟨bB, eB⟩ : ∃ b, bitN B = b := ⟨_, rfl⟩
  have eA' := Lib.hid eA; have eB' := Lib.hid eB
  by_cases h1 : 8 ≤ s ∧ s ≤ 9000
  · obtain ⟨n, rfl⟩ : ∃ n : Nat, s = (n : Int) := ⟨s.toNat, by omega⟩
    have s1 : 8 ≤ n := by omega
    have s2 : n ≤ 9000 := by omega
    by_cases h2 : 4096 < bA
    · have d1 : decide (4096 < (bA : Int)) = true := decide_eq_true (by omega)
      clear hs eA eB
      go_enter Tryd.func8, Tryd.ntmps8
      go_wp2_with
      (first
        | (go_at_call 31; (with_reducible refine (HT3.out).mono ?_); rintro e w1 ⟨vt1, rfl, t1, hb1⟩; have B1 := hb1; have m1 := h.below hb1; have g1 := k.below hb1; clear h k)
        | (go_at_call 32; (with_reducible refine (scale_ok s1 s2).mono ?_); rintro e w2 ⟨rfl, rfl⟩)
        | (go_at_call 33; (with_reducible refine (bits_n m1 eA'.out).mono ?_); rintro e w3 ⟨rfl, hb3⟩; have B3 := B1.trans (hb3.mono B1.size); have m3 := m1.below hb3; have g3 := g1.below hb3; have t3 := t1.below hb3; clear m1 g1 t1)
        | fail)
      go_ret3
      exact ⟨rfl, B3⟩
    · have d1 : decide (4096 < (bA : Int)) = false := decide_eq_false (by omega)
      by_cases h3 : 4096 < bB
      · have d2 : decide (4096 < (bB : Int)) = true := decide_eq_true (by omega)
        clear hs eA eB
        go_enter Tryd.func8, Tryd.ntmps8
        go_wp2_with
        (first
          | (go_at_call 31; (with_reducible refine (HT3.out).mono ?_); rintro e w1 ⟨vt1, rfl, t1, hb1⟩; have B1 := hb1; have m1 := h.below hb1; have g1 := k.below hb1; clear h k)
          | (go_at_call 32; (with_reducible refine (scale_ok s1 s2).mono ?_); rintro e w2 ⟨rfl, rfl⟩)
          | (go_at_call 33; (with_reducible refine (bits_n m1 eA'.out).mono ?_); rintro e w3 ⟨rfl, hb3⟩; have B3 := B1.trans (hb3.mono B1.size); have m3 := m1.below hb3; have g3 := g1.below hb3; have t3 := t1.below hb3; clear m1 g1 t1)
          | (go_at_call 33; (with_reducible refine (bits_n g3 eB'.out).mono ?_); rintro e w4 ⟨rfl, hb4⟩; have B4 := B3.trans (hb4.mono B3.size); have m4 := m3.below hb4; have g4 := g3.below hb4; have t4 := t3.below hb4; clear m3 g3 t3)
          | fail)
        go_ret3
        exact ⟨rfl, B4⟩
      · have d2 : decide (4096 < (bB : Int)) = false := decide_eq_false (by omega)
        by_cases h4 : bB = 0
        · have d3 : ((bB : Int) == 0) = true := by rw [h4]; rfl
          clear hs eA eB h4
          go_enter Tryd.func8, Tryd.ntmps8
          go_wp2_with
          (first
            | (go_at_call 31; (with_reducible refine (HT3.out).mono ?_); rintro e w1 ⟨vt1, rfl, t1, hb1⟩; have B1 := hb1; have m1 := h.below hb1; have g1 := k.below hb1; clear h k)
            | (go_at_call 32; (with_reducible refine (scale_ok s1 s2).mono ?_); rintro e w2 ⟨rfl, rfl⟩)
            | (go_at_call 33; (with_reducible refine (bits_n m1 eA'.out).mono ?_); rintro e w3 ⟨rfl, hb3⟩; have B3 := B1.trans (hb3.mono B1.size); have m3 := m1.below hb3; have g3 := g1.below hb3; have t3 := t1.below hb3; clear m1 g1 t1)
            | (go_at_call 33; (with_reducible refine (bits_n g3 eB'.out).mono ?_); rintro e w4 ⟨rfl, hb4⟩; have B4 := B3.trans (hb4.mono B3.size); have m4 := m3.below hb4; have g4 := g3.below hb4; have t4 := t3.below hb4; clear m3 g3 t3)
            | (go_at_call 33; (with_reducible refine (bits_n g4 eB'.out).mono ?_); rintro e w5 ⟨rfl, hb5⟩; have B5 := B4.trans (hb5.mono B4.size); have m5 := m4.below hb5; have g5 := g4.below hb5; have t5 := t4.below hb5; clear m4 g4 t4)
            | fail)
          go_ret3
          exact ⟨rfl, B5⟩
        · have d3 : ((bB : Int) == 0) = false := beq_false_of_ne (by omega)
          have h5 : B < A * 3 := by
            have : B ≠ 0 := fun e => h4 (by rw [← eB, e]; exact bitN_zero)
            omega
          obtain ⟨c, ec⟩ : ∃ c, cmpN (A * 3) B = c := ⟨_, rfl⟩
          have dc : decide (0 < c) = true := decide_eq_true (by rw [← ec]; unfold cmpN; rw [if_neg (by omega), if_neg (by omega)]; decide)
          have ec' := Lib.hid ec
          clear hs eA eB ec
          go_enter Tryd.func8, Tryd.ntmps8
          go_wp2_with
          (first
            | (go_at_call 31; (with_reducible refine (HT3.out).mono ?_); rintro e w1 ⟨vt1, rfl, t1, hb1⟩; have B1 := hb1; have m1 := h.below hb1; have g1 := k.below hb1; clear h k)
            | (go_at_call 32; (with_reducible refine (scale_ok s1 s2).mono ?_); rintro e w2 ⟨rfl, rfl⟩)
            | (go_at_call 33; (with_reducible refine (bits_n m1 eA'.out).mono ?_); rintro e w3 ⟨rfl, hb3⟩; have B3 := B1.trans (hb3.mono B1.size); have m3 := m1.below hb3; have g3 := g1.below hb3; have t3 := t1.below hb3; clear m1 g1 t1)
            | (go_at_call 33; (with_reducible refine (bits_n g3 eB'.out).mono ?_); rintro e w4 ⟨rfl, hb4⟩; have B4 := B3.trans (hb4.mono B3.size); have m4 := m3.below hb4; have g4 := g3.below hb4; have t4 := t3.below hb4; clear m3 g3 t3)
            | (go_at_call 33; (with_reducible refine (bits_n g4 eB'.out).mono ?_); rintro e w5 ⟨rfl, hb5⟩; have B5 := B4.trans (hb5.mono B4.size); have m5 := m4.below hb5; have g5 := g4.below hb5; have t5 := t4.below hb5; clear m4 g4 t4)
            | (go_at_call 22; (with_reducible refine (cmp_n (t5.num s3) g5 ec'.out).mono ?_); rintro e w6 ⟨rfl, hb6⟩; have B6 := B5.trans (hb6.mono B5.size); have m6 := m5.below hb6; have g6 := g5.below hb6; have t6 := t5.below hb6; clear m5 g5 t5)
            | fail)
          go_ret3
          exact ⟨rfl, B6⟩
  · clear hs eA eB
    go_enter Tryd.func8, Tryd.ntmps8
    go_wp2_with
    (first
      | (go_at_call 31; (with_reducible refine (HT3.out).mono ?_); rintro e w1 ⟨vt1, rfl, t1, hb1⟩; have B1 := hb1; have m1 := h.below hb1; have g1 := k.below hb1; clear h k)
      | (go_at_call 32; (with_reducible refine (scale_no (by omega)).mono ?_); rintro e w2 ⟨rfl, rfl⟩)
      | fail)
    go_ret3
    exact ⟨rfl, B1⟩
end
end Go.Proofs.YtecgimdgmilcbaaDoor
