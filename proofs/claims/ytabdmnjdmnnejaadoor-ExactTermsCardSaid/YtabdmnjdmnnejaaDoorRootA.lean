/- root.step and root.floor by their contracts. Conditions: the number has at most 8192 bits; math/bits' table stands in its variable. -/
import Derived.Test.YtabdmnjdmnnejaaDoorQuoE
import Derived.Test.YtabdmnjdmnnejaaDoorBaseL
namespace Go.Proofs.YtabdmnjdmnnejaaDoor
set_option maxRecDepth 100000
open Go.RowKit Go.ChangeShapes Go.WideShapes

theorem le_256 {c : Nat} (h : c ≤ 8191) : c + 1 ≤ 2560000 := by omega
theorem le_655 {c : Nat} (h : c ≤ 8191) : c + bitN 1 ≤ 65536 := by rw [bitN_one]; omega
theorem bits_1 : bitN 1 ≤ 2560000 := by rw [bitN_one]; omega
set_option maxHeartbeats 800000 in
theorem step_n {w : World} {v u : Value} {A x m K Y : Nat} (h : Num w v A) (k : Num w u x) (hT : Tab w) (hx : 0 < x) (hK : K = m + 1) (hm : K ≤ 8192) (hA : bitN A ≤ 8192) (hp : bitN (x ^ m) ≤ 60000) (hx2 : bitN x ≤ 8192) (e : newton A m x = Y) :
    Calls Tryd.prog 92 #[v, u, .int .i64 K] w (One w (digs BB Y)) := by
  have hKI : (K : Int) - 1 = (m : Int) := by omega
  have q1 := bitN_mono (Nat.div_le_self A (x ^ m))
  have q2 := bitN_mul_le x m
  have q3 : bitN m ≤ 14 := bitN_le.2 (by omega)
  have q4 := bitN_add_le (x * m) (A / x ^ m)
  have hx0 : x ^ m ≠ 0 := Nat.ne_of_gt (Nat.pow_pos hx)
  unfold newton at e
  rw [← hK] at e
  generalize hP : x ^ m = P at *
  generalize hQ : A / P = Q at *
  generalize hM : x * m = M at *
  generalize hS : M + Q = S at *
  have sx : bitN x + bitN m ≤ 65536 := by omega
  have sP : bitN P ≤ 65536 := by omega
  have sp : bitN P ≤ 2560000 := by omega
  have sM : bitN M ≤ 2560000 := by omega
  have sQ : bitN Q ≤ 2560000 := by omega
  have sS : bitN S ≤ 2560000 := by omega
  have hmm : m ≤ 9223372036854775807 := by omega
  have hmB : m < BB := by unfold BB; omega
  have hKB : K < BB := by unfold BB; omega
  have hK0 : K ≠ 0 := by omega
  have eP := Lib.hid hP; have eQ := Lib.hid hQ; have eM := Lib.hid hM; have eS := Lib.hid hS; have eY := Lib.hid e
  have hw1 : IntKind.u64.wrap (m : Int) = (m : Int) := by rw [IntKind.wrap_u64]; omega
  have hw2 : IntKind.u64.wrap (K : Int) = (K : Int) := by rw [IntKind.wrap_u64]; omega
  clear q1 q2 q3 q4 hP hQ hM hS e hK
  go_enter Tryd.func92, Tryd.ntmps92
  go_wp2_with
  (first
    | (go_at_call 80; (with_reducible refine (pow_n k eP.out sP hmm).mono ?_); rintro e w1 ⟨vp1, rfl, p1, hb1⟩; have B1 := hb1; have a1 := h.below hb1; have x1 := k.below hb1; have T1 := hT.below hb1; clear h k hT)
    | (go_at_call 99; (with_reducible refine (div_n a1 (p1.num sp) T1 hx0 eQ.out rfl).mono ?_); rintro e w2 ⟨vq2, vr2, rfl, q2, r2, hb2⟩; have B2 := B1.trans (hb2.mono B1.size); have a2 := a1.below hb2; have x2 := x1.below hb2; have T2 := T1.below hb2; have p2 := p1.below hb2; clear a1 x1 T1 p1)
    | (go_at_call 97; (with_reducible refine (times_n x2 hmB eM.out sx).mono ?_); rintro e w3 ⟨vt3, rfl, t3, hb3⟩; have B3 := B2.trans (hb3.mono B2.size); have a3 := a2.below hb3; have x3 := x2.below hb3; have T3 := T2.below hb3; have p3 := p2.below hb3; have q3 := q2.below hb3; have r3 := r2.below hb3; clear a2 x2 T2 p2 q2 r2)
    | (go_at_call 98; (with_reducible refine (add_n (t3.num sM) (q3.num sQ) eS.out).mono ?_); rintro e w4 ⟨vs4, rfl, s4, hb4⟩; have B4 := B3.trans (hb4.mono B3.size); have a4 := a3.below hb4; have x4 := x3.below hb4; have T4 := T3.below hb4; have p4 := p3.below hb4; have q4 := q3.below hb4; have r4 := r3.below hb4; have t4 := t3.below hb4; clear a3 x3 T3 p3 q3 r3 t3)
    | (go_at_call 100; (with_reducible refine (small_n (s4.num sS) hKB hK0 eY.out rfl).mono ?_); rintro e w5 ⟨vy5, rfl, y5, hb5⟩; have B5 := B4.trans (hb5.mono B4.size); have a5 := a4.below hb5; have x5 := x4.below hb5; have T5 := T4.below hb5; have p5 := p4.below hb5; have q5 := q4.below hb5; have r5 := r4.below hb5; have t5 := t4.below hb5; have s5 := s4.below hb5; clear a4 x4 T4 p4 q4 r4 t4 s4)
    | fail)
  go_ret
  exact ⟨_, rfl, by assumption, by assumption⟩

set_option maxRecDepth 100000 in
set_option maxHeartbeats 1000000 in
theorem floor_n {w : World} {v : Value} {A K R : Nat} (h : Num w v A) (hT : Tab w) (hA0 : A ≠ 0) (hA : bitN A ≤ 8192) (hK : 2 ≤ K) (hKi : K ≤ 9223372036854775807) (hR : IsRoot A K R) :
    Calls Tryd.prog 79 #[v, .int .i64 K] w (One w (digs BB R)) := by
  have h1B : 1 < BB := by decide
  obtain ⟨b, hb⟩ : ∃ b, bitN A = b := ⟨_, rfl⟩
  by_cases hbig : b ≤ K
  · obtain rfl : R = 1 := hR.uniq (IsRoot.small hA0 (bitN_le.1 (by omega)))
    have eb := Lib.hid hb
    have hdec : decide ((b : Int) ≤ (K : Int)) = true := decide_eq_true (by omega)
    clear hb hR
    go_enter Tryd.func79, Tryd.ntmps79
    go_wp2_with
    (first
      | (go_at_call 37; (with_reducible refine (bits_n h eb.out).mono ?_); rintro e w1 ⟨rfl, hb1⟩; have B1 := hb1; have a1 := h.below hb1; have T1 := hT.below hb1; clear h hT)
      | (go_at_call 91; (with_reducible refine (of_1).mono ?_); rintro e w2 ⟨vo2, rfl, o2, hb2⟩; have B2 := B1.trans (hb2.mono B1.size); have a2 := a1.below hb2; have T2 := T1.below hb2; clear a1 T1)
      | fail)
    go_ret
    exact ⟨_, rfl, by assumption, by assumption⟩
  · obtain ⟨c, hc⟩ : ∃ c, (b + K - 1) / K = c := ⟨_, rfl⟩
    have hcK : b ≤ c * K := by
      have := Nat.div_add_mod (b + K - 1) K
      have h2 := Nat.mod_lt (b + K - 1) (show 0 < K by omega)
      rw [hc, Nat.mul_comm] at this
      omega
    have hcm : c * (K - 1) ≤ 16384 := by
      have := Nat.div_mul_le_self (b + K - 1) K
      rw [hc] at this
      have h2 := Nat.mul_le_mul_left c (show K - 1 ≤ K by omega)
      omega
    have hc1 : c ≤ 8191 := by
      have h3 := Nat.div_mul_le_self (b + K - 1) K
      rw [hc] at h3
      have h4 := Nat.mul_le_mul_left (c - 1) hK
      rw [Nat.sub_mul c 1 K, Nat.one_mul] at h4
      omega
    have hR0 : 0 < R := by
      rcases Nat.eq_zero_or_pos R with rfl | h0
      · have := hR.2
        rw [Nat.zero_add, Nat.one_pow] at this; omega
      · exact h0
    have hst := newton_start hR (by rw [hb]; exact hcK)
    have hcI : ((b : Int) + (K : Int) - 1).tdiv (K : Int) = (c : Int) := by
      rw [Int.tdiv_eq_ediv_of_nonneg (by omega), show (b : Int) + (K : Int) - 1 = ((b + K - 1 : Nat) : Int) by omega, ← hc]; simp
    have hKne : (K : Int) ≠ 0 := by omega
    have hdec : decide ((b : Int) ≤ (K : Int)) = false := decide_eq_false (by omega)
    obtain ⟨m, hm⟩ : ∃ m, K = m + 1 := ⟨K - 1, by omega⟩
    rw [show K - 1 = m by omega] at hcm
    have hcW : wrap64 ((wrap64 (wrap64 ((b : Int) + (K : Int)) - 1)).tdiv (K : Int)) = (c : Int) := by
      rw [show wrap64 ((b : Int) + (K : Int)) = (b : Int) + (K : Int) by unfold wrap64; omega, show wrap64 ((b : Int) + (K : Int) - 1) = (b : Int) + (K : Int) - 1 by unfold wrap64; omega, hcI]
      unfold wrap64; omega
    have HM := Lib.hid hm
    have eb := Lib.hid hb
    have HR := Lib.hid hR
    have h20 : bitN (2 ^ c) ≤ c + 1 := bitN_le.2 (Nat.pow_lt_pow_right (by omega) (Nat.lt_succ_self c))
    have h2 : bitN (2 ^ c) ≤ 2560000 := Nat.le_trans h20 (le_256 hc1)
    have h3 : c + bitN 1 ≤ 65536 := le_655 hc1
    have h4 : bitN 1 ≤ 2560000 := bits_1
    have ec := Lib.hid (show 1 * 2 ^ c = 2 ^ c from Nat.one_mul _)
    have hK8 : K ≤ 8192 := by omega
    clear hb hR hc hcK hm
    go_enter Tryd.func79, Tryd.ntmps79
    go_upto_region 4 with
    (first
      | (go_at_call 37; (with_reducible refine (bits_n h eb.out).mono ?_); rintro e w1 ⟨rfl, hb1⟩; have B1 := hb1; have a1 := h.below hb1; have T1 := hT.below hb1; clear h hT)
      | fail)
    go_cut [6] (fun x wx => RdN wx x (digs BB (2 ^ c)) ∧ Below w.heap.size w wx ∧ Num wx v A ∧ Tab wx)
    case first =>
      have aD : Num w1.drew v A := a1.below (below_drewN (Below.refl _ _) 1)
      have TD : Tab w1.drew := T1.below (below_drewN (Below.refl _ _) 1)
      have BD : Below w.heap.size w w1.drew := below_drewN B1 1
      go_region_with
      (first
        | (go_at_call 91; (with_reducible refine (of_1).mono ?_); rintro e w2 ⟨vo2, rfl, o2, hb2⟩; have B2 := BD.trans (hb2.mono BD.size); have a2 := aD.below hb2; have T2 := TD.below hb2; clear aD TD)
        | simp only [hcW]
        | (go_at_call 48; (with_reducible refine (shl_n (o2.num h4) ec.out h3).mono ?_); rintro e w3 ⟨vx3, rfl, x3, hb3⟩; have B3 := B2.trans (hb3.mono B2.size); have a3 := a2.below hb3; have T3 := T2.below hb3; have o3 := o2.below hb3; clear a2 T2 o2)
        | fail)
      all_goals
        go_wp2_with fail
        go_meet
        exact ⟨x3, B3, a3, T3⟩
    case rest =>
      have HST := Lib.hid hcut
      go_wp2_with fail
      go_loopw [6] (fun x wr => ∃ X, RdN wr x (digs BB X) ∧ R ≤ X ∧ X ≤ 2 ^ c ∧ Below w.heap.size w wr ∧ Num wr v A ∧ Tab wr) (fun x wr => numOf wr x)
      case atStart => exact ⟨2 ^ c, HST.out.1, Nat.le_of_lt hst, Nat.le_refl _, HST.out.2⟩
      case round =>
        clear HST
        obtain ⟨X, hX, hRX, hXc, hB, hA4, hT4⟩ := hrel
        have HMs := Lib.hid (numOf_eq hX)
        have hX0 : 0 < X := by omega
        have b1 : bitN X ≤ c + 1 := Nat.le_trans (bitN_mono hXc) h20
        have b2 : bitN (X ^ m) ≤ c * m + 1 := by
          refine bitN_le.2 (Nat.lt_of_le_of_lt (Nat.pow_le_pow_left hXc m) ?_)
          rw [← Nat.pow_mul]
          exact Nat.pow_lt_pow_right (by omega) (Nat.lt_succ_self _)
        have b3 : bitN X ≤ 8192 := by omega
        have b4 : bitN (X ^ m) ≤ 60000 := by omega
        have sX : bitN X ≤ 2560000 := by omega
        have hRm : IsRoot A (m + 1) R := by rw [← HM.out]; exact HR.out
        have n1 := newton_ge hRm hX0
        have n2 := newton_done hRm hRX
        generalize hY : newton A m X = Y at *
        have eY := Lib.hid hY
        have hK1 := HM
        by_cases hYX : Y < X
        · have hYc : Y ≤ 2 ^ c := by omega
          have sY : bitN Y ≤ 2560000 := Nat.le_trans (bitN_mono (Nat.le_of_lt hYX)) sX
          have hcm1 := cmpN_lt hYX
          have ecm := Lib.hid hcm1
          clear hY n2 hRm hcm1
          go_wp2_with
        (first
          | (go_at_call 92; (with_reducible refine (step_n hA4 (hX.num sX) hT4 hX0 hK1.out hK8 hA b4 b3 eY.out).mono ?_); rintro e w4 ⟨vy4, rfl, y4, hb4⟩; have B4 := hB.trans (hb4.mono hB.size); have a4 := hA4.below hb4; have x4 := hX.below hb4; have T4 := hT4.below hb4; clear hA4 hX hT4)
          | (go_at_call 68; (with_reducible refine (cmp_n (y4.num sY) (x4.num sX) ecm.out).mono ?_); rintro e w5 ⟨rfl, hb5⟩; have B5 := B4.trans (hb5.mono B4.size); have a5 := a4.below hb5; have x5 := x4.below hb5; have T5 := T4.below hb5; have y5 := y4.below hb5; clear a4 x4 T4 y4)
          | fail)
          go_round
          case rel => exact ⟨Y, y5, n1, hYc, B5, a5, T5⟩
          case measure => rw [HMs.out, numOf_eq y5]; exact hYX
        · have hXR := n2 (by omega)
          have h5 : 0 ≤ cmpN Y X := by unfold cmpN; rw [if_neg hYX]; split <;> decide
          generalize hcc : cmpN Y X = cc at *
          have ecm := Lib.hid hcc
          have hd9 : decide (0 ≤ cc) = true := decide_eq_true h5
          have q5 : bitN Y ≤ 16400 := by
            rw [← hY]; unfold newton
            refine Nat.le_trans (bitN_mono (Nat.div_le_self _ _)) (Nat.le_trans (bitN_add_le _ _) ?_)
            have z1 := bitN_mul_le X m
            have z2 : bitN m ≤ 14 := bitN_le.2 (by have := HM.out; omega)
            have z3 := bitN_mono (Nat.div_le_self A (X ^ m))
            omega
          have sY : bitN Y ≤ 2560000 := by omega
          clear hY n2 hRm hcc
          go_wp2_with
        (first
          | (go_at_call 92; (with_reducible refine (step_n hA4 (hX.num sX) hT4 hX0 hK1.out hK8 hA b4 b3 eY.out).mono ?_); rintro e w4 ⟨vy4, rfl, y4, hb4⟩; have B4 := hB.trans (hb4.mono hB.size); have a4 := hA4.below hb4; have x4 := hX.below hb4; have T4 := hT4.below hb4; clear hA4 hX hT4)
          | (go_at_call 68; (with_reducible refine (cmp_n (y4.num sY) (x4.num sX) ecm.out).mono ?_); rintro e w5 ⟨rfl, hb5⟩; have B5 := B4.trans (hb5.mono B4.size); have a5 := a4.below hb5; have x5 := x4.below hb5; have T5 := T4.below hb5; have y5 := y4.below hb5; clear a4 x4 T4 y4)
          | fail)
          go_ret
          exact ⟨_, rfl, by rw [← hXR]; assumption, by assumption⟩
end Go.Proofs.YtabdmnjdmnnejaaDoor

/- root.Root by its contract. Conditions: the list is short; math/bits' table stands in its variable. -/
namespace Go.Proofs.YtabdmnjdmnnejaaDoor
set_option maxRecDepth 100000
open Go.RowKit Go.ChangeShapes Go.WideShapes

/-- A root, and is it exact. -/
def RootZ (w : World) (R : Nat) (is : Bool) (e : Ending) (w' : World) : Prop := ∃ v, e = .returned (.tuple #[v, .bool is, .int .i64 0]) ∧ RdN w' v (digs BB R) ∧ Below w.heap.size w w'

set_option maxHeartbeats 800000 in
theorem root_n {w : World} {v : Value} {A K R : Nat} {is : Bool} (h : Num w v A) (hT : Tab w) (hA : bitN A ≤ 8192) (hK : 1 ≤ K) (hKi : K ≤ 9223372036854775807) (hR : IsRoot A K R) (his : decide (R ^ K = A) = is) :
    Calls Tryd.prog 56 #[v, .int .i64 K] w (RootZ w R is) := by
  unfold RootZ
  have sA : bitN A ≤ 2560000 := by omega
  have hd1 : decide ((K : Int) < 1) = false := decide_eq_false (by omega)
  by_cases h0 : A = 0
  · subst h0
    obtain rfl := hR.uniq (IsRoot.zero (by omega))
    obtain rfl : is = true := by rw [← his]; exact decide_eq_true (Nat.zero_pow (by omega))
    have eb := Lib.hid bitN_zero
    clear hR his
    go_enter Tryd.func56, Tryd.ntmps56
    go_wp2_with
    (first
      | (go_at_call 59; (with_reducible refine (bare_n h).mono ?_); rintro e w1 ⟨vs1, rfl, s1, hb1⟩; have B1 := hb1; have a1 := h.below hb1; have T1 := hT.below hb1; clear h hT; obtain ⟨as1, ks1, rfl⟩ := s1.rnone)
      | (go_at_call 37; (with_reducible refine (bits_n (s1.num sA) eb.out).mono ?_); rintro e w2 ⟨rfl, hb2⟩; have B2 := B1.trans (hb2.mono B1.size); have a2 := a1.below hb2; have T2 := T1.below hb2; have s2 := s1.below hb2; clear a1 T1 s1)
      | fail)
    go_ret3
    exact ⟨_, rfl, by assumption, by assumption⟩
  · have hsl : 0 < (digs BB A).length := List.length_pos_iff.2 (fun e => h0 ((digs_nil_iff BB_two _).1 e))
    have hsn : digs BB A ≠ [] := fun e => h0 ((digs_nil_iff BB_two _).1 e)
    have hsb : (((digs BB A).length : Int) == 0) = false := beq_false_of_ne (by omega)
    obtain ⟨b, hb⟩ : ∃ b, bitN A = b := ⟨_, rfl⟩
    have hd2 : decide (8192 < (b : Int)) = false := decide_eq_false (by omega)
    have eb := Lib.hid hb
    by_cases h1 : K = 1
    · subst h1
      obtain rfl := hR.uniq (IsRoot.one A)
      obtain rfl : is = true := by rw [← his]; exact decide_eq_true (Nat.pow_one _)
      clear hR his hd1
      show Calls Tryd.prog 56 #[v, .int .i64 1] w _
      go_enter Tryd.func56, Tryd.ntmps56
      go_wp2_with
      (first
        | (go_at_call 59; (with_reducible refine (bare_n h).mono ?_); rintro e w1 ⟨vs1, rfl, s1, hb1⟩; have B1 := hb1; have a1 := h.below hb1; have T1 := hT.below hb1; clear h hT; obtain ⟨as1, ks1, rfl, -⟩ := s1.view; try simp only [List.length_nil] at s1)
        | (go_at_call 37; (with_reducible refine (bits_n (s1.num sA) eb.out).mono ?_); rintro e w2 ⟨rfl, hb2⟩; have B2 := B1.trans (hb2.mono B1.size); have a2 := a1.below hb2; have T2 := T1.below hb2; have s2 := s1.below hb2; clear a1 T1 s1)
        | fail)
      go_ret3
      exact ⟨_, rfl, by assumption, by assumption⟩
    · have hK2 : 2 ≤ K := by omega
      have hKn : ((K : Int) == 1) = false := beq_false_of_ne (by omega)
      have hle := hR.1
      have hRA := hR.le_self (by omega)
      have q1 := bitN_mono hle
      have q2 := bitN_mono hRA
      have sR : bitN R ≤ 2560000 := by omega
      have sP : bitN (R ^ K) ≤ 65536 := by omega
      have sp : bitN (R ^ K) ≤ 2560000 := by omega
      have hc : decide (cmpN (R ^ K) A = 0) = is := by
        rw [← his]
        exact decide_eq_decide.2 cmpN_zero
      generalize hP : R ^ K = P at *
      generalize hcc : cmpN P A = c at *
      have eP := Lib.hid hP; have ec := Lib.hid hcc
      have HR := Lib.hid hR
      have hc2 : (c == 0) = is := by rw [← hc]; rfl
      clear hP hcc hR hle hRA q1 q2 hb his hc
      go_enter Tryd.func56, Tryd.ntmps56
      go_wp2_with
      (first
        | (go_at_call 59; (with_reducible refine (bare_n h).mono ?_); rintro e w1 ⟨vs1, rfl, s1, hb1⟩; have B1 := hb1; have a1 := h.below hb1; have T1 := hT.below hb1; clear h hT; obtain ⟨as1, ks1, rfl, -⟩ := s1.view; try simp only [List.length_nil] at s1)
        | (go_at_call 37; (with_reducible refine (bits_n (s1.num sA) eb.out).mono ?_); rintro e w2 ⟨rfl, hb2⟩; have B2 := B1.trans (hb2.mono B1.size); have a2 := a1.below hb2; have T2 := T1.below hb2; have s2 := s1.below hb2; clear a1 T1 s1)
        | (go_at_call 79; (with_reducible refine (floor_n (s2.num sA) T2 h0 hA hK2 hKi HR.out).mono ?_); rintro e w3 ⟨vx3, rfl, x3, hb3⟩; have B3 := B2.trans (hb3.mono B2.size); have a3 := a2.below hb3; have T3 := T2.below hb3; have s3 := s2.below hb3; clear a2 T2 s2)
        | (go_at_call 80; (with_reducible refine (pow_n (x3.num sR) eP.out sP hKi).mono ?_); rintro e w4 ⟨vp4, rfl, p4, hb4⟩; have B4 := B3.trans (hb4.mono B3.size); have a4 := a3.below hb4; have T4 := T3.below hb4; have s4 := s3.below hb4; have x4 := x3.below hb4; clear a3 T3 s3 x3)
        | (go_at_call 68; (with_reducible refine (cmp_n (p4.num sp) (s4.num sA) ec.out).mono ?_); rintro e w5 ⟨rfl, hb5⟩; have B5 := B4.trans (hb5.mono B4.size); have a5 := a4.below hb5; have T5 := T4.below hb5; have s5 := s4.below hb5; have x5 := x4.below hb5; have p5 := p4.below hb5; clear a4 T4 s4 x4 p4)
        | fail)
      go_ret3
      exact ⟨_, rfl, by assumption, by assumption⟩

/-- Where there is no root to be told. -/
theorem root_arg {w : World} {v : Value} {A : Nat} {k : Int} (h : Num w v A) (hk : k < 1) :
    Calls Tryd.prog 56 #[v, .int .i64 k] w (fun e w' => e = .returned (.tuple #[.slice none 0 0, .bool false, .int .i64 1]) ∧ Below w.heap.size w w') := by
  go_enter Tryd.func56, Tryd.ntmps56
  go_wp2_with
  (first
    | (go_at_call 59; (with_reducible refine (bare_n h).mono ?_); rintro e w1 ⟨vs1, rfl, s1, hb1⟩; have B1 := hb1; have a1 := h.below hb1; clear h)
    | fail)
  go_ret3
  exact ⟨rfl, by assumption⟩
theorem root_long {w : World} {v : Value} {A : Nat} {k : Int} (h : Num w v A) (hk : 1 ≤ k) (hk' : k ≤ 9223372036854775807) (hA : 8192 < bitN A) :
    Calls Tryd.prog 56 #[v, .int .i64 k] w (fun e w' => e = .returned (.tuple #[.slice none 0 0, .bool false, .int .i64 2]) ∧ Below w.heap.size w w') := by
  have sA := h.bound
  obtain ⟨b, hb⟩ : ∃ b, bitN A = b := ⟨_, rfl⟩
  have hd1 : decide (k < 1) = false := decide_eq_false (by omega)
  have hd2 : decide (8192 < (b : Int)) = true := decide_eq_true (by omega)
  have eb := Lib.hid hb
  clear hb
  go_enter Tryd.func56, Tryd.ntmps56
  go_wp2_with
  (first
    | (go_at_call 59; (with_reducible refine (bare_n h).mono ?_); rintro e w1 ⟨vs1, rfl, s1, hb1⟩; have B1 := hb1; have a1 := h.below hb1; clear h)
    | (go_at_call 37; (with_reducible refine (bits_n (s1.num sA) eb.out).mono ?_); rintro e w2 ⟨rfl, hb2⟩; have B2 := B1.trans (hb2.mono B1.size); have a2 := a1.below hb2; have s2 := s1.below hb2; clear a1 s1)
    | fail)
  go_ret3
  exact ⟨rfl, by assumption⟩
end Go.Proofs.YtabdmnjdmnnejaaDoor

/- root.Halves and root.Order by their contracts. Conditions: the list is short; math/bits' table stands in its variable. -/
namespace Go.Proofs.YtabdmnjdmnnejaaDoor
set_option maxRecDepth 100000
open Go.RowKit Go.ChangeShapes Go.WideShapes

theorem root2_n {w : World} {v : Value} {A R : Nat} {is : Bool} (h : Num w v A) (hT : Tab w) (hA : bitN A ≤ 8192) (hR : IsRoot A 2 R) (his : decide (R ^ 2 = A) = is) :
    Calls Tryd.prog 56 #[v, .int .i64 2] w (RootZ w R is) := root_n (K := 2) h hT hA (by omega) (by omega) hR his

end Go.Proofs.YtabdmnjdmnnejaaDoor
