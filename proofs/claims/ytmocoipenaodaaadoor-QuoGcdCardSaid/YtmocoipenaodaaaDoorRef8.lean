/- The document's Div by its contract. Conditions: the lists are short, the divisor isn't nought. -/
import Derived.Test.YtmocoipenaodaaaDoorRef7
namespace Go.Proofs.YtmocoipenaodaaaDoor
open Go.RowKit

theorem digsD_mono {a b : Nat} (h : a ≤ b) : (digs DD a).length ≤ (digs DD b).length :=
  (digs_length_le DD_two _ _).2 (Nat.lt_of_le_of_lt h ((digs_length_le DD_two _ _).1 (Nat.le_refl _)))

/-- One round of dividing by bits. -/
theorem div_round (A B j : Nat) (hB : 0 < B) : A / 2 ^ j = 2 * (A / 2 ^ (j + 1)) + A / 2 ^ j % 2 ∧
    (2 * (A / 2 ^ (j + 1) % B) + A / 2 ^ j % 2 < B → A / 2 ^ j / B = 2 * (A / 2 ^ (j + 1) / B) ∧ A / 2 ^ j % B = 2 * (A / 2 ^ (j + 1) % B) + A / 2 ^ j % 2) ∧
    (B ≤ 2 * (A / 2 ^ (j + 1) % B) + A / 2 ^ j % 2 → A / 2 ^ j / B = 2 * (A / 2 ^ (j + 1) / B) + 1 ∧ A / 2 ^ j % B = 2 * (A / 2 ^ (j + 1) % B) + A / 2 ^ j % 2 - B) := by
  have e1 : A / 2 ^ (j + 1) = A / 2 ^ j / 2 := by rw [Nat.pow_succ, Nat.div_div_eq_div_mul]
  rw [e1]
  generalize A / 2 ^ j = T
  have e2 : T = 2 * (T / 2) + T % 2 := by omega
  have e3 := Nat.mod_add_div (T / 2) B
  have hlt := Nat.mod_lt (T / 2) hB
  have hm := Nat.mod_lt T (show 0 < 2 by omega)
  generalize T % 2 = d at *
  generalize T / 2 = t at *
  generalize t / B = q at *
  generalize t % B = r at *
  refine ⟨e2, fun h => ?_, fun h => ?_⟩
  · have e : T = B * (2 * q) + (2 * r + d) := by rw [e2, ← e3, Nat.mul_left_comm B 2 q]; omega
    rw [e, Nat.mul_add_div hB, Nat.div_eq_of_lt h, Nat.mul_add_mod, Nat.mod_eq_of_lt h]
    exact ⟨rfl, rfl⟩
  · have e : T = B * (2 * q + 1) + (2 * r + d - B) := by rw [e2, ← e3, Nat.mul_add B, Nat.mul_left_comm B 2 q]; omega
    have h2 : 2 * r + d - B < B := by omega
    rw [e, Nat.mul_add_div hB, Nat.div_eq_of_lt h2, Nat.mul_add_mod, Nat.mod_eq_of_lt h2]
    exact ⟨rfl, rfl⟩

theorem bitsD {A k : Nat} (h : (digs DD A).length ≤ k) : bitN A ≤ 16 * k := by
  rw [bitN_le, Nat.pow_mul, ← DD_pow]
  exact (digs_length_le DD_two A k).1 h

/-- What the document's Div leaves. -/
def TwoD (w : World) (a b : Nat) (e : Ending) (w' : World) : Prop :=
  ∃ v u, e = .returned (.tuple #[v, u]) ∧ RdD w' v (digs DD a) ∧ RdD w' u (digs DD b) ∧ Below w.heap.size w w'

set_option maxHeartbeats 1000000 in
theorem rdiv_any {w : World} {v u : Value} {A B : Nat} (h : RdD w v (digs DD A)) (k : RdD w u (digs DD B)) (hl : (digs DD A).length ≤ 400000) (hB : 0 < B) :
    Calls Tryd.prog 11 #[v, u] w (TwoD w (A / B) (A % B)) := by
  have HBits := refbits_any h (by omega)
  have hbits := bitsD hl
  obtain ⟨n, hn⟩ : ∃ n, bitN A = n := ⟨_, rfl⟩
  have hAn : A / 2 ^ n = 0 := Nat.div_eq_of_lt (by rw [← hn]; exact bitN_lt A)
  rw [hn] at HBits hbits
  clear hn
  have HA := Lib.hid h; have HU := Lib.hid k; clear h k
  have HAN := Lib.hid hAn; clear hAn
  go_enter Tryd.func11, Tryd.ntmps11
  go_wp2_with (go_at_call 27; (with_reducible refine HBits.mono ?_); rintro e w1 ⟨rfl, rfl⟩)
  go_loopw [6, 7, 8] (fun q r i wr => ∃ (p : Nat) (jI : Int), i = .int .i64 jI ∧ jI + 1 = p ∧ p ≤ n ∧ RdD wr q (digs DD (A / 2 ^ p / B)) ∧ RdD wr r (digs DD (A / 2 ^ p % B)) ∧ Below w1.heap.size w1 wr) (fun _ _ i _ => ((intOf i) + 1).toNat)
  case atStart => exact ⟨n, _, rfl, by omega, Nat.le_refl _, by rw [HAN.out, Nat.zero_div]; exact RdD.nil0 _, by rw [HAN.out, Nat.zero_mod]; exact RdD.nil0 _, Below.refl _ _⟩
  case round =>
    obtain ⟨p, jI, rfl, hjI, hp, hq, hr, hb⟩ := hrel
    cases p with
    | zero =>
      obtain rfl : jI = -1 := by omega
      rw [Nat.pow_zero, Nat.div_one] at hq hr
      go_wp2
      go_ret2
      exact ⟨_, _, rfl, hq, hr, hb⟩
    | succ j =>
      obtain rfl : jI = j := by omega
      obtain ⟨e1, e2, e3⟩ := div_round A B j hB
      have hTA : A / 2 ^ j ≤ A := Nat.div_le_self _ _
      have hbit := Nat.mod_lt (A / 2 ^ j) (show 0 < 2 by omega)
      have htB : A / 2 ^ (j + 1) % B ≤ A / 2 ^ (j + 1) := Nat.mod_le _ _
      have htq : A / 2 ^ (j + 1) / B ≤ A / 2 ^ (j + 1) := Nat.div_le_self _ _
      have HBit := Lib.hid (fun w (h : RdD w v (digs DD A)) => rbit_any (i := j) h (by omega) (by omega))
      obtain ⟨q2, hq2⟩ : ∃ x, A / 2 ^ j / B = x := ⟨_, rfl⟩
      obtain ⟨r2, hr2⟩ : ∃ x, A / 2 ^ j % B = x := ⟨_, rfl⟩
      rw [hq2, hr2] at e2 e3
      have HQ2 := Lib.hid hq2; have HR2 := Lib.hid hr2
      clear hq2 hr2
      generalize A / 2 ^ j % 2 = d at *
      generalize A / 2 ^ (j + 1) / B = q1 at *
      generalize A / 2 ^ (j + 1) % B = r1 at *
      have lr1 : (digs DD r1).length ≤ 1000000 := Nat.le_trans (digsD_mono (Nat.le_trans htB (Nat.div_le_self _ _))) (by omega)
      have lq1 : (digs DD q1).length ≤ 1000000 := Nat.le_trans (digsD_mono (Nat.le_trans htq (Nat.div_le_self _ _))) (by omega)
      have hyA : 2 * r1 + d ≤ A := by
        revert e1 hTA htB
        generalize A / 2 ^ j = T
        generalize A / 2 ^ (j + 1) = t
        intros; omega
      have lr2 : (digs DD (2 * r1 + d)).length ≤ 1000000 := Nat.le_trans (digsD_mono hyA) (by omega)
      have HD1 := Lib.hid (fun w v (h : RdD w v (digs DD r1)) => rdouble_any (more := d) h lr1 (by omega))
      have HE2 := Lib.hid e2; have HE3 := Lib.hid e3
      generalize 2 * r1 + d = y at *
      have HUb := Lib.hid (HU.out.below hb)
      have HAb := Lib.hid (HA.out.below hb)
      clear e1 e2 e3 hTA htB htq hyA
      by_cases hy : y < B
      · have HC := Lib.hid (fun w v u (h : RdD w v (digs DD y)) (k : RdD w u (digs DD B)) => rcmp_any h k lr2)
        rw [cmpN_lt hy] at HC
        have HD2 := Lib.hid (fun w v (h : RdD w v (digs DD q1)) => (show Calls Tryd.prog 28 #[v, .int .u32 0] w (OneD w (digs DD (2 * q1 + 0))) from rdouble_any (more := 0) h lq1 (by omega)))
        obtain ⟨e1, e2⟩ := HE2.out hy
        rw [Nat.add_zero] at HD2
        subst e1 e2
        go_wp2_with (first
          | (go_at_call 29; (with_reducible refine (HBit.out _ HAb.out).mono ?_); rintro e w2 ⟨rfl, rfl⟩)
          | (go_at_call 28; (with_reducible refine (HD1.out _ _ hr).mono ?_); rintro e w3 ⟨v3, rfl, hr3, hb3⟩)
          | (go_at_call 30; (with_reducible refine (HC.out _ _ _ hr3 (HUb.out.below hb3)).mono ?_); rintro e w4 ⟨rfl, hb4⟩)
          | (go_at_call 28; (with_reducible refine (HD2.out _ _ ((hq.below hb3).below hb4)).mono ?_); rintro e w5 ⟨v5, rfl, hr5, hb5⟩))
        go_round
        case rel => exact ⟨j, _, rfl, by omega, by omega, by rw [HQ2.out]; exact hr5, by rw [HR2.out]; exact (hr3.below hb4).below hb5, ((hb.trans (hb3.mono hb.size)).trans (hb4.mono (Nat.le_trans hb.size hb3.size))).trans (hb5.mono (Nat.le_trans (Nat.le_trans hb.size hb3.size) hb4.size))⟩
        case measure => simp [intOf]
      · have hyB : B ≤ y := by omega
        have hcm : decide ((0 : Int) ≤ cmpN y B) = true := decide_eq_true (by
          rcases Nat.lt_or_ge B y with h | h
          · rw [cmpN_gt h]; decide
          · rw [show y = B by omega, cmpN_eq]; decide)
        have HC := Lib.hid (fun w v u (h : RdD w v (digs DD y)) (k : RdD w u (digs DD B)) => rcmp_any h k lr2)
        generalize cmpN y B = cm at *
        have HS := Lib.hid (fun w v u (h : RdD w v (digs DD y)) (k : RdD w u (digs DD B)) => rsub_any h k lr2 hyB (by omega))
        have HD2 := Lib.hid (fun w v (h : RdD w v (digs DD q1)) => (show Calls Tryd.prog 28 #[v, .int .u32 1] w (OneD w (digs DD (2 * q1 + 1))) from rdouble_any (more := 1) h lq1 (by omega)))
        obtain ⟨e1, e2⟩ := HE3.out hyB
        subst e1 e2
        go_wp2_with (first
          | (go_at_call 29; (with_reducible refine (HBit.out _ HAb.out).mono ?_); rintro e w2 ⟨rfl, rfl⟩)
          | (go_at_call 28; (with_reducible refine (HD1.out _ _ hr).mono ?_); rintro e w3 ⟨v3, rfl, hr3, hb3⟩)
          | (go_at_call 30; (with_reducible refine (HC.out _ _ _ hr3 (HUb.out.below hb3)).mono ?_); rintro e w4 ⟨rfl, hb4⟩)
          | (go_at_call 31; (with_reducible refine (HS.out _ _ _ (hr3.below hb4) ((HUb.out.below hb3).below hb4)).mono ?_); rintro e w5 ⟨v5, rfl, hr5, hb5⟩)
          | (go_at_call 28; (with_reducible refine (HD2.out _ _ (((hq.below hb3).below hb4).below hb5)).mono ?_); rintro e w6 ⟨v6, rfl, hr6, hb6⟩))
        go_round
        case rel => exact ⟨j, _, rfl, by omega, by omega, by rw [HQ2.out]; exact hr6, by rw [HR2.out]; exact hr5.below hb6, (((hb.trans (hb3.mono hb.size)).trans (hb4.mono (Nat.le_trans hb.size hb3.size))).trans (hb5.mono (Nat.le_trans (Nat.le_trans hb.size hb3.size) hb4.size))).trans (hb6.mono (Nat.le_trans (Nat.le_trans (Nat.le_trans hb.size hb3.size) hb4.size) hb5.size))⟩
        case measure => simp [intOf]
end Go.Proofs.YtmocoipenaodaaaDoor
