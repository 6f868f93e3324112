/- root.Root by its contract. Conditions: the list is short; math/bits' table stands in its variable. -/
import Derived.Test.YtnoelffaccekjaaDoorRoot1
namespace Go.Proofs.YtnoelffaccekjaaDoor
open Go.RowKit Go.ChangeShapes Go.WideShapes

/-- A root, and is it exact. -/
def RootZ (w : World) (R : Nat) (is : Bool) (e : Ending) (w' : World) : Prop := ∃ v, e = .returned (.tuple #[v, .bool is, .int .i64 0]) ∧ RdN w' v (digs BB R) ∧ Below w.heap.size w w'

set_option maxHeartbeats 800000 in
theorem root_n {w : World} {v : Value} {A K R : Nat} {is : Bool} (h : Num w v A) (hT : Tab w) (hA : bitN A ≤ 8192) (hK : 1 ≤ K) (hKi : K ≤ 9223372036854775807) (hR : IsRoot A K R) (his : decide (R ^ K = A) = is) :
    Calls Tryd.prog 8 #[v, .int .i64 K] w (RootZ w R is) := by
  unfold RootZ
  have sA : bitN A ≤ 2560000 := by omega
  have hd1 : decide ((K : Int) < 1) = false := decide_eq_false (by omega)
  by_cases h0 : A = 0
  · subst h0
    obtain rfl := hR.uniq (IsRoot.zero (by omega))
    obtain rfl : is = true := by rw [← his]; exact decide_eq_true (Nat.zero_pow (by omega))
    have eb := Lib.hid bitN_zero
    clear hR his
    go_enter Tryd.func8, Tryd.ntmps8
    go_wp2_with
    (first
      | (go_at_call 23; (with_reducible refine (bare_n h).mono ?_); rintro e w1 ⟨vs1, rfl, s1, hb1⟩; have B1 := hb1; have a1 := h.below hb1; have T1 := hT.below hb1; clear h hT; obtain ⟨as1, ks1, rfl⟩ := s1.none)
      | (go_at_call 21; (with_reducible refine (bits_n (s1.num sA) eb.out).mono ?_); rintro e w2 ⟨rfl, hb2⟩; have B2 := B1.trans (hb2.mono B1.size); have a2 := a1.below hb2; have T2 := T1.below hb2; have s2 := s1.below hb2; clear a1 T1 s1)
      | fail)
    go_ret3
    exact ⟨_, rfl, by assumption, by assumption⟩
  · have hsl : 0 < (digs BB A).length := List.length_pos_iff.2 (fun e => h0 ((digs_nil_iff BB_two _).1 e))
    have hsn : digs BB A ≠ [] := fun e => h0 ((digs_nil_iff BB_two _).1 e)
    have hsb : (((digs BB A).length : Int) == 0) = false := beq_false_of_ne (by omega)
    obtain ⟨b, hb⟩ : ∃ b, bitN A = b := ⟨_, rfl⟩
    have hd2 : decide (8192 < (b : Int)) = false := decide_eq_false (by omega)
    have eb := Lib.hid hb
    by_cases h1 : K = 1
    · subst h1
      obtain rfl := hR.uniq (IsRoot.one A)
      obtain rfl : is = true := by rw [← his]; exact decide_eq_true (Nat.pow_one _)
      clear hR his hd1
      show Calls Tryd.prog 8 #[v, .int .i64 1] w _
      go_enter Tryd.func8, Tryd.ntmps8
      go_wp2_with
      (first
        | (go_at_call 23; (with_reducible refine (bare_n h).mono ?_); rintro e w1 ⟨vs1, rfl, s1, hb1⟩; have B1 := hb1; have a1 := h.below hb1; have T1 := hT.below hb1; clear h hT; obtain ⟨as1, ks1, rfl, -⟩ := s1.view; try simp only [List.length_nil] at s1)
        | (go_at_call 21; (with_reducible refine (bits_n (s1.num sA) eb.out).mono ?_); rintro e w2 ⟨rfl, hb2⟩; have B2 := B1.trans (hb2.mono B1.size); have a2 := a1.below hb2; have T2 := T1.below hb2; have s2 := s1.below hb2; clear a1 T1 s1)
        | fail)
      go_ret3
      exact ⟨_, rfl, by assumption, by assumption⟩
    · have hK2 : 2 ≤ K := by omega
      have hKn : ((K : Int) == 1) = false := beq_false_of_ne (by omega)
      have hle := hR.1
      have hRA := hR.le_self (by omega)
      have q1 := bitN_mono hle
      have q2 := bitN_mono hRA
      have sR : bitN R ≤ 2560000 := by omega
      have sP : bitN (R ^ K) ≤ 65536 := by omega
      have sp : bitN (R ^ K) ≤ 2560000 := by omega
      have hc : decide (cmpN (R ^ K) A = 0) = is := by
        rw [← his]
        exact decide_eq_decide.2 cmpN_zero
      generalize hP : R ^ K = P at *
      generalize hcc : cmpN P A = c at *
      have eP := Lib.hid hP; have ec := Lib.hid hcc
      have HR := Lib.hid hR
      have hc2 : (c == 0) = is := by rw [← hc]; rfl
      clear hP hcc hR hle hRA q1 q2 hb his hc
      go_enter Tryd.func8, Tryd.ntmps8
      go_wp2_with
      (first
        | (go_at_call 23; (with_reducible refine (bare_n h).mono ?_); rintro e w1 ⟨vs1, rfl, s1, hb1⟩; have B1 := hb1; have a1 := h.below hb1; have T1 := hT.below hb1; clear h hT; obtain ⟨as1, ks1, rfl, -⟩ := s1.view; try simp only [List.length_nil] at s1)
        | (go_at_call 21; (with_reducible refine (bits_n (s1.num sA) eb.out).mono ?_); rintro e w2 ⟨rfl, hb2⟩; have B2 := B1.trans (hb2.mono B1.size); have a2 := a1.below hb2; have T2 := T1.below hb2; have s2 := s1.below hb2; clear a1 T1 s1)
        | (go_at_call 24; (with_reducible refine (floor_n (s2.num sA) T2 h0 hA hK2 hKi HR.out).mono ?_); rintro e w3 ⟨vx3, rfl, x3, hb3⟩; have B3 := B2.trans (hb3.mono B2.size); have a3 := a2.below hb3; have T3 := T2.below hb3; have s3 := s2.below hb3; clear a2 T2 s2)
        | (go_at_call 16; (with_reducible refine (pow_n (x3.num sR) eP.out sP hKi).mono ?_); rintro e w4 ⟨vp4, rfl, p4, hb4⟩; have B4 := B3.trans (hb4.mono B3.size); have a4 := a3.below hb4; have T4 := T3.below hb4; have s4 := s3.below hb4; have x4 := x3.below hb4; clear a3 T3 s3 x3)
        | (go_at_call 17; (with_reducible refine (cmp_n (p4.num sp) (s4.num sA) ec.out).mono ?_); rintro e w5 ⟨rfl, hb5⟩; have B5 := B4.trans (hb5.mono B4.size); have a5 := a4.below hb5; have T5 := T4.below hb5; have s5 := s4.below hb5; have x5 := x4.below hb5; have p5 := p4.below hb5; clear a4 T4 s4 x4 p4)
        | fail)
      go_ret3
      exact ⟨_, rfl, by assumption, by assumption⟩

/-- Where there is no root to be told. -/
theorem root_arg {w : World} {v : Value} {A : Nat} {k : Int} (h : Num w v A) (hk : k < 1) :
    Calls Tryd.prog 8 #[v, .int .i64 k] w (fun e w' => e = .returned (.tuple #[.slice none 0 0, .bool false, .int .i64 1]) ∧ Below w.heap.size w w') := by
  go_enter Tryd.func8, Tryd.ntmps8
  go_wp2_with
  (first
    | (go_at_call 23; (with_reducible refine (bare_n h).mono ?_); rintro e w1 ⟨vs1, rfl, s1, hb1⟩; have B1 := hb1; have a1 := h.below hb1; clear h)
    | fail)
  go_ret3
  exact ⟨rfl, by assumption⟩
theorem root_long {w : World} {v : Value} {A : Nat} {k : Int} (h : Num w v A) (hk : 1 ≤ k) (hk' : k ≤ 9223372036854775807) (hA : 8192 < bitN A) :
    Calls Tryd.prog 8 #[v, .int .i64 k] w (fun e w' => e = .returned (.tuple #[.slice none 0 0, .bool false, .int .i64 2]) ∧ Below w.heap.size w w') := by
  have sA := h.bound
  obtain ⟨b, hb⟩ : ∃ b, bitN A = b := ⟨_, rfl⟩
  have hd1 : decide (k < 1) = false := decide_eq_false (by omega)
  have hd2 : decide (8192 < (b : Int)) = true := decide_eq_true (by omega)
  have eb := Lib.hid hb
  clear hb
  go_enter Tryd.func8, Tryd.ntmps8
  go_wp2_with
  (first
    | (go_at_call 23; (with_reducible refine (bare_n h).mono ?_); rintro e w1 ⟨vs1, rfl, s1, hb1⟩; have B1 := hb1; have a1 := h.below hb1; clear h)
    | (go_at_call 21; (with_reducible refine (bits_n (s1.num sA) eb.out).mono ?_); rintro e w2 ⟨rfl, hb2⟩; have B2 := B1.trans (hb2.mono B1.size); have a2 := a1.below hb2; have s2 := s1.below hb2; clear a1 s1)
    | fail)
  go_ret3
  exact ⟨rfl, by assumption⟩
end Go.Proofs.YtnoelffaccekjaaDoor
