/- planimeterref01.Shr by its contract. Conditions: the number is short. -/
import Derived.Test.YtflkemcoomgoiaaDoorRefB
namespace Go.Proofs.YtflkemcoomgoiaaDoor
set_option maxRecDepth 100000
open Go.RowKit Go.ChangeShapes Go.WideShapes

theorem shr_bit (A t : Nat) : 2 * (A / 2 ^ (t + 1)) + A / 2 ^ t % 2 = A / 2 ^ t := by
  rw [Nat.pow_succ, ← Nat.div_div_eq_div_mul]
  omega
theorem mod_bit (A t : Nat) : decide (A % 2 ^ (t + 1) ≠ 0) = (decide (A % 2 ^ t ≠ 0) || decide (A / 2 ^ t % 2 = 1)) := by
  rw [Nat.pow_succ, Nat.mod_mul]
  have hp : 0 < 2 ^ t := Nat.pow_pos (by omega)
  rcases Nat.mod_two_eq_zero_or_one (A / 2 ^ t) with h | h
  · rw [h, Nat.mul_zero, Nat.add_zero, decide_eq_false (p := (0 : Nat) = 1) (by omega), Bool.or_false]
  · rw [h, Nat.mul_one, decide_eq_true (p := (1 : Nat) = 1) rfl, Bool.or_true]
    exact decide_eq_true (by omega)

/-- What the document's Shr leaves. -/
def RShr (w : World) (A n : Nat) (e : Ending) (w' : World) : Prop :=
  ∃ v, e = .returned (.tuple #[v, .bool (decide (A % 2 ^ n ≠ 0))]) ∧ RdD w' v (digs DD (A / 2 ^ n)) ∧ Below w.heap.size w w'

set_option maxHeartbeats 800000 in
theorem rshr_n {w : World} {v : Value} {A n : Nat} (h : RdD w v (digs DD A)) (sA : bitN A ≤ 300000) (hn : n ≤ 9223372036854775807) :
    Calls Tryd.prog 21 #[v, .int .i64 n] w (RShr w A n) := by
  obtain ⟨b, hb⟩ : ∃ b, bitN A = b := ⟨_, rfl⟩
  have sA4 : bitN A ≤ 400000 := by omega
  have eb := Lib.hid hb
  have hlt : A < 2 ^ b := by rw [← hb]; exact bitN_lt A
  have hnd : decide ((n : Int) < 0) = false := decide_eq_false (by omega)
  have hbs : b ≤ 300000 := by omega
  have HLT := Lib.hid hlt
  have hlA : (digs DD A).length ≤ 1000000 := Nat.le_trans (digsDlen sA) (by omega)
  have RA := Lib.hid h
  clear hb hlt
  go_enter Tryd.func21, Tryd.ntmps21
  go_wp2_with (go_at_call 44; (with_reducible refine (rbits_n h eb.out sA4).mono ?_); rintro e w1 ⟨rfl, rfl⟩)
  go_loopw [7, 8] (fun o i wr => ∃ j : Nat, i = .int .i64 ((j : Int) - 1) ∧ j ≤ b ∧ (n ≤ j ∨ j = b) ∧ RdD wr o (digs DD (A / 2 ^ j)) ∧ Below w1.heap.size w1 wr) (fun _ i _ => (intOf i + 1).toNat)
  case atStart => exact ⟨b, rfl, Nat.le_refl _, .inr rfl, by rw [Nat.div_eq_of_lt HLT.out, digs_zero]; exact Rd.nil _ _, Below.refl _ _⟩
  case round =>
    obtain ⟨j, rfl, hj, hjn, hO, hB⟩ := hrel
    by_cases hgo : n < j
    · obtain ⟨t, rfl⟩ : ∃ t, j = t + 1 := ⟨j - 1, by omega⟩
      have ht : (((t + 1 : Nat) : Int) - 1) = (t : Int) := by omega
      rw [ht]
      have htd : decide ((n : Int) ≤ (t : Int)) = true := decide_eq_true (by omega)
      have hBt := Lib.hid (rbit_any (i := t) (RA.out.below hB) hlA (by omega))
      have e := shr_bit A t
      have hm : A / 2 ^ t % 2 ≤ 1 := by omega
      have hlq : (digs DD (A / 2 ^ (t + 1))).length ≤ 1000000 := Nat.le_trans (digsD_mono (Nat.div_le_self _ _)) hlA
      have hDo := Lib.hid (rdouble_any (more := A / 2 ^ t % 2) hO hlq hm)
      rw [e] at hDo
      have E := Lib.hid e
      generalize A / 2 ^ t % 2 = bt at *
      clear e
      go_wp2_with (first
        | (go_at_call 20; (with_reducible refine hBt.out.mono ?_); rintro e w2 ⟨rfl, rfl⟩)
        | (go_at_call 45; (with_reducible refine hDo.out.mono ?_); rintro e w3 ⟨v3, rfl, hv3, hb3⟩)
        | fail)
      go_round
      case rel => exact ⟨t, by go_num, by omega, .inl (by omega), hv3, hB.trans (hb3.mono hB.size)⟩
      case measure => simp [intOf]
    · have hd0 : decide ((n : Int) ≤ (j : Int) - 1) = false := decide_eq_false (by omega)
      have hq : A / 2 ^ j = A / 2 ^ n := by
        rcases Nat.lt_or_ge j n with h2 | h2
        · obtain rfl : j = b := by rcases hjn with h3 | h3; · omega
                                   · exact h3
          rw [Nat.div_eq_of_lt HLT.out, Nat.div_eq_of_lt (Nat.lt_of_lt_of_le HLT.out (Nat.pow_le_pow_right (by omega) (by omega)))]
        · rw [show j = n by omega]
      rw [hq] at hO
      have HO := Lib.hid (And.intro hO hB)
      clear hq hjn hO
      go_wp2
      go_loopw [9, 10] (fun r i wr' => ∃ (j : Nat) (ex : Bool), i = .int .i64 j ∧ j ≤ n ∧ j ≤ b ∧ r = .bool ex ∧ Hid (decide (A % 2 ^ j ≠ 0) = ex) ∧ wr' = wr) (fun _ i _ => n - (intOf i).toNat)
      case atStart => exact ⟨0, false, rfl, Nat.zero_le _, Nat.zero_le _, rfl, Lib.hid (by rw [Nat.pow_zero, Nat.mod_one]; rfl), rfl⟩
      case round =>
        obtain ⟨t, ex, rfl, htn, htb, rfl, HEX, rfl⟩ := hrel
        by_cases hgo2 : t < n ∧ t < b
        · have hd1 : decide (t < n) = true := decide_eq_true hgo2.1
          have hd2 : decide (t < b) = true := decide_eq_true hgo2.2
          have hd1' : decide ((t : Int) < (n : Int)) = true := decide_eq_true (by omega)
          have hd2' : decide ((t : Int) < (b : Int)) = true := decide_eq_true (by omega)
          have hBt := Lib.hid (rbit_any (i := t) (RA.out.below HO.out.2) hlA (by omega))
          have hmb := mod_bit A t
          obtain ⟨bt, hbt⟩ : ∃ bt, A / 2 ^ t % 2 = bt := ⟨_, rfl⟩
          rw [hbt] at hBt hmb
          have hbq : ((bt : Int) == 1) = decide (bt = 1) := by
            by_cases h1 : bt = 1
            · rw [h1]; rfl
            · rw [decide_eq_false h1]; exact beq_false_of_ne (by omega)
          rw [HEX.out] at hmb
          have HMB := Lib.hid hmb
          obtain ⟨o1, ho1⟩ : ∃ o, decide (bt = 1) = o := ⟨_, rfl⟩
          rw [ho1] at hbq HMB
          clear hmb hbt ho1
          cases ex
          all_goals
            go_wp2_with (go_at_call 20; (with_reducible refine hBt.out.mono ?_); rintro e w2 ⟨rfl, rfl⟩)
            go_round
            case rel => exact ⟨t + 1, _, by go_num, by omega, by omega, rfl, HMB, by first | rfl | trivial⟩
            case measure => simp [intOf]; omega
        · have hEnd : decide (A % 2 ^ n ≠ 0) = ex := by
            rw [← HEX.out]
            rcases Nat.lt_or_ge t n with h2 | h2
            · obtain rfl : t = b := by omega
              rw [Nat.mod_eq_of_lt HLT.out, Nat.mod_eq_of_lt (Nat.lt_of_lt_of_le HLT.out (Nat.pow_le_pow_right (by omega) (by omega)))]
            · rw [show t = n by omega]
          have HE := Lib.hid hEnd
          by_cases h3 : t < n
          · have hd1 : decide (t < n) = true := decide_eq_true h3
            have hd2 : decide (t < b) = false := decide_eq_false (by omega)
            clear hEnd
            go_wp2
            go_ret2
            exact ⟨_, by rw [HE.out]; rfl, HO.out.1, HO.out.2⟩
          · have hd1 : decide (t < n) = false := decide_eq_false h3
            clear hEnd
            go_wp2
            go_ret2
            exact ⟨_, by rw [HE.out]; rfl, HO.out.1, HO.out.2⟩
end Go.Proofs.YtflkemcoomgoiaaDoor
