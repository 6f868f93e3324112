/- planimeterref04.Above and Root by their contracts. Conditions: the numbers are short. -/
import Derived.Test.YtnoelffaccekjaaDoorRefB
import Derived.Test.YtnoelffaccekjaaDoorBaseL
namespace Go.Proofs.YtnoelffaccekjaaDoor
open Go.RowKit Go.ChangeShapes Go.WideShapes

set_option maxHeartbeats 800000 in
theorem above_n {w : World} {v u : Value} {X A K : Nat} {is : Bool} (h : RdD w v (digs DD X)) (k : RdD w u (digs DD A)) (hX : X ≠ 0) (hK : 1 ≤ K) (hKi : K ≤ 9223372036854775807) (sX : bitN X ≤ 100000) (sA : bitN A ≤ 100000) (e : decide (A < X ^ K) = is) :
    Calls Tryd.prog 28 #[v, .int .i64 K, u] w (fun e w' => e = .returned (.bool is) ∧ Below w.heap.size w w') := by
  have hsn : digs DD X ≠ [] := fun e => hX ((digs_nil_iff DD_two _).1 e)
  have hsl := List.length_pos_iff.2 hsn
  have hsi : ((digs DD X).length : Int) ≠ 0 := by omega
  have h1D : bitN 1 ≤ 400000 := by rw [bitN_one]; omega
  have sX4 : bitN X ≤ 400000 := by omega
  have sA4 : bitN A ≤ 400000 := by omega
  by_cases h1 : X = 1
  · subst h1
    have hc : decide (0 < cmpN 1 A) = is := by
      rw [← e, Nat.one_pow]
      refine decide_eq_decide.2 ?_
      unfold cmpN
      split
      · constructor <;> intro h <;> omega
      · split
        · constructor <;> intro h <;> omega
        · constructor <;> intro h <;> omega
    generalize hcc : cmpN 1 A = c at *
    have ec := Lib.hid hcc
    have ecx := Lib.hid (cmpN_eq 1)
    clear hcc e
    have hv := h.view
    obtain ⟨a, kk, rfl, -⟩ := hv
    go_enter Tryd.func28, Tryd.ntmps28
    go_wp2_with
    (first
      | (go_at_call 13; (with_reducible refine (num_one).mono ?_); rintro e w1 ⟨vp1, rfl, p1, hb1⟩; have B1 := hb1; have x1 := h.below hb1; have a1 := k.below hb1; clear h k)
      | (go_at_call 12; (with_reducible refine (rcmp_n x1 p1 ecx.out h1D).mono ?_); rintro e w2 ⟨rfl, hb2⟩; have B2 := B1.trans (hb2.mono B1.size); have x2 := x1.below hb2; have a2 := a1.below hb2; have p2 := p1.below hb2; clear x1 a1 p1)
      | (go_at_call 12; (with_reducible refine (rcmp_n p2 a2 ec.out h1D).mono ?_); rintro e w3 ⟨rfl, hb3⟩; have B3 := B2.trans (hb3.mono B2.size); have x3 := x2.below hb3; have a3 := a2.below hb3; have p3 := p2.below hb3; clear x2 a2 p2)
      | fail)
    all_goals
      go_ret
      exact ⟨rfl, by assumption⟩
  · have hX2 : 2 ≤ X := by omega
    obtain ⟨cx, hcx, hcx0⟩ : ∃ c, cmpN X 1 = c ∧ c ≠ 0 := ⟨_, rfl, fun h => h1 (cmpN_zero.1 h)⟩
    have ecx := Lib.hid hcx
    have hcb : (cx == 0) = false := beq_false_of_ne hcx0
    have HE := Lib.hid e
    have RX := Lib.hid h; have RA := Lib.hid k
    clear hcx e
    have hv := h.view
    obtain ⟨a, kk, rfl, -⟩ := hv
    go_enter Tryd.func28, Tryd.ntmps28
    go_wp2_with
    (first
      | (go_at_call 13; (with_reducible refine (num_one).mono ?_); rintro e w1 ⟨vp1, rfl, p1, hb1⟩; have B1 := hb1; have x1 := h.below hb1; have a1 := k.below hb1; clear h k)
      | (go_at_call 12; (with_reducible refine (rcmp_n x1 p1 ecx.out sX4).mono ?_); rintro e w2 ⟨rfl, hb2⟩; have B2 := B1.trans (hb2.mono B1.size); have x2 := x1.below hb2; have a2 := a1.below hb2; have p2 := p1.below hb2; clear x1 a1 p1)
      | fail)
    have HST := Lib.hid (show RdD w2 vp1 (digs DD (X ^ 0)) ∧ Below w.heap.size w w2 from ⟨by rw [Nat.pow_zero]; assumption, by assumption⟩)
    clear hb1 hb2
    go_loopw [7, 8] (fun p i wr => ∃ j : Nat, i = .int .i64 j ∧ j ≤ K ∧ (j = 0 ∨ X ^ j ≤ A) ∧ RdD wr p (digs DD (X ^ j)) ∧ Below w.heap.size w wr) (fun _ i _ => K - (intOf i).toNat)
    case atStart => exact ⟨0, rfl, Nat.zero_le _, .inl rfl, HST.out⟩
    case round =>
      clear HST
      obtain ⟨j, rfl, hj, hP, hp, hB⟩ := hrel
      by_cases hjK : j < K
      · have sP : bitN (X ^ j) ≤ 400000 := by
          rcases hP with rfl | hP
          · rw [Nat.pow_zero]; exact h1D
          · exact Nat.le_trans (bitN_mono hP) sA4
        have hnxt := Nat.pow_succ X j
        have sQ : bitN (X ^ (j + 1)) ≤ 400000 := by
          rw [hnxt]
          have := bitN_mul_le (X ^ j) X
          have h5 : bitN (X ^ j) ≤ 100001 := by
            rcases hP with rfl | hP
            · rw [Nat.pow_zero, bitN_one]; omega
            · have := bitN_mono hP; omega
          omega
        have eQ := Lib.hid hnxt.symm
        have hjd : decide ((j : Int) < (K : Int)) = true := decide_eq_true (by omega)
        have hx := RX.out.below hB; have ha := RA.out.below hB
        by_cases hgt : A < X ^ (j + 1)
        · have hT : is = true := by
            rw [← HE.out]
            exact decide_eq_true (Nat.lt_of_lt_of_le hgt (Nat.pow_le_pow_right (by omega) (by omega)))
          subst hT
          have ec := Lib.hid (cmpN_gt hgt)
          clear hP hnxt hgt
          go_wp2_with
        (first
          | (go_at_call 29; (with_reducible refine (rmul_n hp hx eQ.out sP sX4).mono ?_); rintro e w3 ⟨vq3, rfl, q3, hb3⟩; have B3 := hB.trans (hb3.mono hB.size); have p3 := hp.below hb3; have x3 := hx.below hb3; have a3 := ha.below hb3; clear hp hx ha)
          | (go_at_call 12; (with_reducible refine (rcmp_n q3 a3 ec.out sQ).mono ?_); rintro e w4 ⟨rfl, hb4⟩; have B4 := B3.trans (hb4.mono B3.size); have p4 := p3.below hb4; have x4 := x3.below hb4; have a4 := a3.below hb4; have q4 := q3.below hb4; clear p3 x3 a3 q3)
          | fail)
          go_ret
          exact ⟨rfl, by assumption⟩
        · have hle : X ^ (j + 1) ≤ A := by omega
          obtain ⟨c, hc, hc0⟩ : ∃ c, cmpN (X ^ (j + 1)) A = c ∧ ¬ 0 < c := ⟨_, rfl, by
            rcases Nat.lt_or_eq_of_le hle with h | h
            · rw [cmpN_lt h]; decide
            · rw [h, cmpN_eq]; decide⟩
          have hcd : decide (0 < c) = false := decide_eq_false hc0
          have ec := Lib.hid hc
          have HL := Lib.hid hle
          clear hP hnxt hgt hle hc
          go_wp2_with
        (first
          | (go_at_call 29; (with_reducible refine (rmul_n hp hx eQ.out sP sX4).mono ?_); rintro e w3 ⟨vq3, rfl, q3, hb3⟩; have B3 := hB.trans (hb3.mono hB.size); have p3 := hp.below hb3; have x3 := hx.below hb3; have a3 := ha.below hb3; clear hp hx ha)
          | (go_at_call 12; (with_reducible refine (rcmp_n q3 a3 ec.out sQ).mono ?_); rintro e w4 ⟨rfl, hb4⟩; have B4 := B3.trans (hb4.mono B3.size); have p4 := p3.below hb4; have x4 := x3.below hb4; have a4 := a3.below hb4; have q4 := q3.below hb4; clear p3 x3 a3 q3)
          | fail)
          go_round
          case rel => exact ⟨j + 1, by go_num, hjK, .inr HL.out, q4, B4⟩
          case measure => simp [intOf]; omega
      · obtain rfl : j = K := by omega
        have hF : is = false := by
          rw [← HE.out]
          refine decide_eq_false (Nat.not_lt.2 ?_)
          rcases hP with rfl | hP
          · omega
          · exact hP
        subst hF
        have hjd : decide ((j : Int) < (j : Int)) = false := decide_eq_false (by omega)
        clear hP
        go_wp2
        go_ret
        exact ⟨rfl, hB⟩

/-- The bits of R from the j-th one on. -/
theorem root_bit (R j : Nat) : (R / 2 ^ (j + 1) * 2 ^ (j + 1) + 2 ^ j ≤ R → R / 2 ^ j * 2 ^ j = R / 2 ^ (j + 1) * 2 ^ (j + 1) + 2 ^ j) ∧ (¬ R / 2 ^ (j + 1) * 2 ^ (j + 1) + 2 ^ j ≤ R → R / 2 ^ j * 2 ^ j = R / 2 ^ (j + 1) * 2 ^ (j + 1)) := by
  have hp : 0 < 2 ^ j := Nat.pow_pos (by omega)
  have e1 := Nat.div_add_mod R (2 ^ j)
  have e2 := Nat.mod_lt R hp
  have e3 : R / 2 ^ (j + 1) = R / 2 ^ j / 2 := by rw [Nat.pow_succ, Nat.div_div_eq_div_mul]
  have e4 := Nat.div_add_mod (R / 2 ^ j) 2
  have e5 := Nat.mod_lt (R / 2 ^ j) (show 0 < 2 by omega)
  rw [e3]
  generalize R / 2 ^ j = t at *
  generalize t / 2 = s at *
  have e6 : s * 2 ^ (j + 1) = 2 ^ j * (2 * s) := by rw [Nat.pow_succ, Nat.mul_comm (2 ^ j) 2, Nat.mul_comm 2 s, Nat.mul_comm (2 ^ j), Nat.mul_assoc]
  rw [e6, Nat.mul_comm t]
  rcases Nat.eq_zero_or_pos (t % 2) with h0 | h0
  · rw [h0, Nat.add_zero] at e4
    rw [e4]
    exact ⟨fun h => by omega, fun _ => rfl⟩
  · have h1 : t % 2 = 1 := by omega
    rw [h1] at e4
    have e7 : 2 ^ j * t = 2 ^ j * (2 * s) + 2 ^ j := by rw [← e4, Nat.mul_add, Nat.mul_one]
    rw [e7]
    exact ⟨fun _ => rfl, fun h => by omega⟩

set_option maxHeartbeats 800000 in
theorem rroot_n {w : World} {v : Value} {A K R : Nat} (h : RdD w v (digs DD A)) (hK : 1 ≤ K) (hKi : K ≤ 9223372036854775807) (sA : bitN A ≤ 40000) (hR : IsRoot A K R) :
    Calls Tryd.prog 11 #[v, .int .i64 K] w (OneD w (digs DD R)) := by
  obtain ⟨b, hb⟩ : ∃ b, bitN A = b := ⟨_, rfl⟩
  obtain ⟨c, hc⟩ : ∃ c, b / K = c := ⟨_, rfl⟩
  have hcI : (b : Int).tdiv (K : Int) = (c : Int) := by
    rw [Int.tdiv_eq_ediv_of_nonneg (by omega), ← hc]; simp
  have hcb : c ≤ b := by rw [← hc]; exact Nat.div_le_self _ _
  have hst : R < 2 ^ (c + 1) := newton_start hR (by
    rw [hb, Nat.succ_mul]
    have := Nat.div_add_mod b K
    have h2 := Nat.mod_lt b hK
    rw [hc, Nat.mul_comm] at this
    omega)
  have hKne : (K : Int) ≠ 0 := by omega
  have hcw : wrap64 (c : Int) = (c : Int) := by unfold wrap64; omega
  have sA5 : bitN A ≤ 100000 := by omega
  have sA4 : bitN A ≤ 400000 := by omega
  have eb := Lib.hid hb
  have HR := Lib.hid hR; have HST := Lib.hid hst
  have hcs : c ≤ 40000 := by omega
  clear hb hc hR hst
  go_enter Tryd.func11, Tryd.ntmps11
  go_wp2_with (go_at_call 10; (with_reducible refine (rbits_n h eb.out sA4).mono ?_); rintro e w1 ⟨rfl, rfl⟩)
  have RA := Lib.hid h
  go_loopw [5, 6] (fun x i wr => ∃ j : Nat, i = .int .i64 ((j : Int) - 1) ∧ j ≤ c + 1 ∧ RdD wr x (digs DD (R / 2 ^ j * 2 ^ j)) ∧ Below w1.heap.size w1 wr) (fun _ i _ => (intOf i + 1).toNat)
  case atStart => exact ⟨c + 1, by simp, Nat.le_refl _, by rw [Nat.div_eq_of_lt HST.out, Nat.zero_mul, digs_zero]; exact Rd.nil _ _, Below.refl _ _⟩
  case round =>
    obtain ⟨j, rfl, hj, hX, hB⟩ := hrel
    rcases j with _ | t
    · rw [Nat.pow_zero, Nat.div_one, Nat.mul_one] at hX
      have hd : decide ((((0 : Nat) : Int) - 1) ≥ 0) = false := by decide
      go_wp2
      go_ret
      exact ⟨_, rfl, hX, hB⟩
    · have ht : (((t + 1 : Nat) : Int) - 1) = (t : Int) := by omega
      rw [ht]
      obtain ⟨rb1, rb2⟩ := root_bit R t
      have hXR : R / 2 ^ (t + 1) * 2 ^ (t + 1) ≤ R := Nat.div_mul_le_self _ _
      have q0 := bitN_mono (HR.out.le_self hK)
      have q1 := bitN_mono hXR
      have q2 : bitN (2 ^ t) ≤ t + 1 := bitN_le.2 (Nat.pow_lt_pow_right (by omega) (Nat.lt_succ_self t))
      have q3 := bitN_add_le (R / 2 ^ (t + 1) * 2 ^ (t + 1)) (2 ^ t)
      generalize R / 2 ^ (t + 1) * 2 ^ (t + 1) = X at *
      have hY0 : X + 2 ^ t ≠ 0 := by
        have := Nat.pow_pos (n := t) (show 0 < 2 by omega); omega
      have sX : bitN X ≤ 400000 := by omega
      have sT : bitN (2 ^ t) ≤ 400000 := by omega
      have sS : bitN 1 + t ≤ 200000 := by rw [bitN_one]; omega
      have sY : bitN (X + 2 ^ t) ≤ 100000 := by omega
      have hRY : A < (X + 2 ^ t) ^ K ↔ R < X + 2 ^ t :=
        ⟨fun h => lt_of_pow (Nat.lt_of_le_of_lt HR.out.1 h), fun h => Nat.lt_of_lt_of_le HR.out.2 (Nat.pow_le_pow_left (show R + 1 ≤ X + 2 ^ t from h) K)⟩
      have htd : decide (0 ≤ (t : Int)) = true := decide_eq_true (by omega)
      have ha := RA.out.below hB
      have HS1 := Lib.hid (fun w v (h : RdD w v (digs DD 1)) => rshl_n h sS)
      rw [Nat.one_mul] at HS1
      by_cases hle : X + 2 ^ t ≤ R
      · have eY := Lib.hid (rb1 hle).symm
        have eis := Lib.hid (decide_eq_false (fun h => absurd (hRY.1 h) (Nat.not_lt.2 hle)))
        clear rb1 rb2 hRY hle
        rw [eY.out] at eis sY hY0
        obtain ⟨Y, hYe⟩ : ∃ Y, R / 2 ^ t * 2 ^ t = Y := ⟨_, rfl⟩
        rw [hYe] at eis sY hY0 eY
        have HYE := Lib.hid hYe
        clear hYe
        go_wp2_with
        (first
          | (go_at_call 13; (with_reducible refine (num_one).mono ?_); rintro e w2 ⟨vo2, rfl, o2, hb2⟩; have B2 := hB.trans (hb2.mono hB.size); have x2 := hX.below hb2; have a2 := ha.below hb2; clear hX ha)
          | (go_at_call 27; (with_reducible refine (HS1.out _ _ o2).mono ?_); rintro e w3 ⟨vs3, rfl, s3, hb3⟩; have B3 := B2.trans (hb3.mono B2.size); have x3 := x2.below hb3; have a3 := a2.below hb3; have o3 := o2.below hb3; clear x2 a2 o2)
          | (go_at_call 26; (with_reducible refine (radd_n x3 s3 eY.out sX sT).mono ?_); rintro e w4 ⟨vy4, rfl, y4, hb4⟩; have B4 := B3.trans (hb4.mono B3.size); have x4 := x3.below hb4; have a4 := a3.below hb4; have o4 := o3.below hb4; have s4 := s3.below hb4; clear x3 a3 o3 s3)
          | (go_at_call 28; (with_reducible refine (above_n y4 a4 hY0 hK hKi sY sA5 eis.out).mono ?_); rintro e w5 ⟨rfl, hb5⟩; have B5 := B4.trans (hb5.mono B4.size); have x5 := x4.below hb5; have a5 := a4.below hb5; have o5 := o4.below hb5; have s5 := s4.below hb5; have y5 := y4.below hb5; clear x4 a4 o4 s4 y4)
          | fail)
        go_round
        case rel => exact ⟨t, by go_num, by omega, by rw [HYE.out]; exact y5, B5⟩
        case measure => simp [intOf]
      · have eX := Lib.hid (rb2 hle)
        have eis := Lib.hid (decide_eq_true (hRY.2 (by omega)))
        obtain ⟨Y, hYe⟩ : ∃ Y, X + 2 ^ t = Y := ⟨_, rfl⟩
        rw [hYe] at eis sY hY0
        have eY := Lib.hid hYe
        clear hYe
        clear rb1 rb2 hRY hle
        go_wp2_with
        (first
          | (go_at_call 13; (with_reducible refine (num_one).mono ?_); rintro e w2 ⟨vo2, rfl, o2, hb2⟩; have B2 := hB.trans (hb2.mono hB.size); have x2 := hX.below hb2; have a2 := ha.below hb2; clear hX ha)
          | (go_at_call 27; (with_reducible refine (HS1.out _ _ o2).mono ?_); rintro e w3 ⟨vs3, rfl, s3, hb3⟩; have B3 := B2.trans (hb3.mono B2.size); have x3 := x2.below hb3; have a3 := a2.below hb3; have o3 := o2.below hb3; clear x2 a2 o2)
          | (go_at_call 26; (with_reducible refine (radd_n x3 s3 eY.out sX sT).mono ?_); rintro e w4 ⟨vy4, rfl, y4, hb4⟩; have B4 := B3.trans (hb4.mono B3.size); have x4 := x3.below hb4; have a4 := a3.below hb4; have o4 := o3.below hb4; have s4 := s3.below hb4; clear x3 a3 o3 s3)
          | (go_at_call 28; (with_reducible refine (above_n y4 a4 hY0 hK hKi sY sA5 eis.out).mono ?_); rintro e w5 ⟨rfl, hb5⟩; have B5 := B4.trans (hb5.mono B4.size); have x5 := x4.below hb5; have a5 := a4.below hb5; have o5 := o4.below hb5; have s5 := s4.below hb5; have y5 := y4.below hb5; clear x4 a4 o4 s4 y4)
          | fail)
        go_round
        case rel => exact ⟨t, by go_num, by omega, by rw [eX.out]; exact x5, B5⟩
        case measure => simp [intOf]
end Go.Proofs.YtnoelffaccekjaaDoor
