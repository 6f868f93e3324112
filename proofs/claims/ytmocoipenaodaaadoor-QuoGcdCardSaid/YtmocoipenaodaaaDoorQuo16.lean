/- quo.Up and quo.Gcd by their contracts. Conditions: the lists are short, the limbs are limbs, math/bits' table stands in its variable. -/
import Derived.Test.YtmocoipenaodaaaDoorQuo15
namespace Go.Proofs.YtmocoipenaodaaaDoor
open Go.RowKit

/-- What quo.Up tells. -/
def upR (A B : Nat) : Nat × Int := if B = 0 then (0, 1) else (A / B + (if A % B = 0 then 0 else 1), 0)

theorem digs_mono {a b : Nat} (h : a ≤ b) : (digs BB a).length ≤ (digs BB b).length :=
  (digs_length_le BB_two _ _).2 (Nat.lt_of_le_of_lt h ((digs_length_le BB_two _ _).1 (Nat.le_refl _)))
theorem div_len {A B k : Nat} (h : (digs BB A).length ≤ k) : (digs BB (A / B)).length ≤ k :=
  (digs_length_le BB_two _ _).2 (Nat.lt_of_le_of_lt (Nat.div_le_self _ _) ((digs_length_le BB_two _ _).1 h))

set_option maxHeartbeats 1000000 in
theorem up_num {w : World} {v u : Value} {l m : List Nat} (hl : RdN w v l) (hm : RdN w u m) (hdl : Dig BB l) (hdm : Dig BB m) (h1 : l.length ≤ 50000) (h2 : m.length ≤ 50000) (hT : Tab w) :
    Calls Tryd.prog 10 #[v, u] w (OneE w (upR (val BB l) (val BB m))) := by
  have HD := div_num hl hm hdl hdm h1 h2 hT
  have la := digs_bound hdl h1 rfl
  generalize val BB l = A at *
  generalize val BB m = B at *
  unfold TwoE divR at HD
  unfold OneE upR
  by_cases hB : B = 0
  · rw [if_pos hB] at *
    go_enter Tryd.func10, Tryd.ntmps10
    go_wp2_with (go_at_call 9; (with_reducible refine HD.mono ?_); rintro e w1 ⟨v1, u1, rfl, hv1, hu1, hb1⟩)
    go_ret2
    exact ⟨_, rfl, hv1, hb1⟩
  · rw [if_neg hB] at *
    have HAd := Lib.hid (fun w v u (h : RdN w v (digs BB (A / B))) (h2 : RdN w u (digs BB 1)) => add_num h h2 (dig_digs BB_two 1) (div_len la) (by decide))
    rw [val_digs BB_two] at HAd
    have HOf := Lib.hid (fun w => show Calls Tryd.prog 16 #[.int .u64 1] w (One w (digs BB 1)) from of_num (w := w) (n := 1) (by decide))
    by_cases hr : A % B = 0
    · rw [if_pos hr, Nat.add_zero]
      rw [hr, digs_zero] at HD
      go_enter Tryd.func10, Tryd.ntmps10
      go_wp2_with (go_at_call 9; (with_reducible refine HD.mono ?_); rintro e w1 ⟨v1, u1, rfl, hv1, hu1, hb1⟩; obtain ⟨a1, k1, rfl, -⟩ := hu1.view)
      go_ret2
      exact ⟨_, rfl, hv1, hb1⟩
    · rw [if_neg hr]
      have hrl : 0 < (digs BB (A % B)).length := List.length_pos_iff.2 (fun e => hr ((digs_nil_iff BB_two _).1 e))
      have hrn : ((digs BB (A % B)).length : Int) ≠ 0 := by omega
      generalize digs BB (A % B) = sR at *
      go_enter Tryd.func10, Tryd.ntmps10
      go_wp2_with (first
        | (go_at_call 9; (with_reducible refine HD.mono ?_); rintro e w1 ⟨v1, u1, rfl, hv1, hu1, hb1⟩; obtain ⟨a1, k1, rfl, -⟩ := hu1.view)
        | (go_at_call 16; (with_reducible refine (HOf.out _).mono ?_); rintro e w2 ⟨v2, rfl, hv2, hb2⟩)
        | (go_at_call 19; (with_reducible refine (HAd.out _ _ _ (hv1.below hb2) hv2).mono ?_); rintro e w3 ⟨v3, rfl, hv3, hb3⟩))
      go_ret2
      exact ⟨_, rfl, hv3, (hb1.trans (hb2.mono hb1.size)).trans (hb3.mono (Nat.le_trans hb1.size hb2.size))⟩

/-- A slice reads as one list alone. -/
theorem RdN.inj {w : World} {v : Value} {l m : List Nat} (h : RdN w v l) (k : RdN w v m) : l = m := by
  obtain ⟨a, c, rfl, -, -, -, h5⟩ := h.view
  obtain ⟨a', c', e, -, -, -, k5⟩ := k.view
  injection e with e1 e2 e3
  subst e1
  apply List.ext_getElem e2
  intro i h1 h2
  obtain ⟨g, off, ea, -, hc⟩ := h5 i h1
  obtain ⟨g', off', ea', -, hc'⟩ := k5 i h2
  rw [ea] at ea'
  injection ea' with ea'
  injection ea' with e1 e4
  subst e1 e4
  rw [hc, List.getElem?_eq_getElem h1, List.getElem?_eq_getElem h2] at hc'
  injection hc' with hc'
  simp at hc'
  omega

/-- The number that a slice reads as. -/
noncomputable def numOf (w : World) (v : Value) : Nat := Classical.epsilon (fun y => RdN w v (digs BB y))
theorem numOf_eq {w : World} {v : Value} {y : Nat} (h : RdN w v (digs BB y)) : numOf w v = y :=
  digs_inj BB_two ((Classical.epsilon_spec (p := fun y => RdN w v (digs BB y)) ⟨y, h⟩).inj h)

set_option maxHeartbeats 1000000 in
theorem gcd_num {w : World} {v u : Value} {l m : List Nat} (hl : RdN w v l) (hm : RdN w u m) (hdl : Dig BB l) (hdm : Dig BB m) (h1 : l.length ≤ 50000) (h2 : m.length ≤ 50000) (hT : Tab w) :
    Calls Tryd.prog 21 #[v, u] w (One w (digs BB (Nat.gcd (val BB l) (val BB m)))) := by
  have HA := bare_num hl hdl (by omega)
  have HB := fun w' (hb : Below w.heap.size w w') => bare_num (hm.below hb) hdm (by omega)
  have la := digs_bound hdl h1 rfl
  have lb := digs_bound hdm h2 rfl
  generalize val BB l = A at *
  generalize val BB m = B at *
  have HT := Lib.hid hT
  clear hT
  go_enter Tryd.func21, Tryd.ntmps21
  go_wp2_with (first
    | (go_at_call 25; (with_reducible refine HA.mono ?_); rintro e w1 ⟨v1, rfl, hr1, hb1⟩)
    | (go_at_call 25; (with_reducible refine (HB _ hb1).mono ?_); rintro e w2 ⟨v2, rfl, hr2, hb2⟩))
  have HS := Lib.hid (And.intro (hr1.below hb2) hr2)
  have HB2 := Lib.hid (hb1.trans (hb2.mono hb1.size))
  have H0 := Lib.hid HT
  clear hr1 hr2 HA HB hb1 hb2
  go_loopw [0, 1] (fun a b wr => ∃ x y : Nat, RdN wr a (digs BB x) ∧ RdN wr b (digs BB y) ∧ Nat.gcd x y = Nat.gcd A B ∧ (digs BB x).length ≤ 50000 ∧ (digs BB y).length ≤ 50000 ∧ Below w.heap.size w wr) (fun _ b wr => numOf wr b)
  case atStart => exact ⟨A, B, HS.out.1, HS.out.2, rfl, la, lb, HB2.out⟩
  case round =>
    obtain ⟨x, y, ha, hb, hg, hx, hy, hB⟩ := hrel
    have HM := Lib.hid (numOf_eq hb)
    have HG := Lib.hid hg
    have HD := Lib.hid (div_num ha hb (dig_digs BB_two x) (dig_digs BB_two y) hx hy (H0.out.out.below hB))
    rw [val_digs BB_two, val_digs BB_two] at HD
    unfold TwoE divR at HD
    clear hg
    by_cases hy0 : y = 0
    · subst hy0
      have ha' := Lib.hid ha
      rw [digs_zero] at hb
      obtain ⟨p, k, rfl, -⟩ := hb.view
      go_wp2
      go_ret
      refine ⟨_, rfl, ?_, hB⟩
      rw [← HG.out, Nat.gcd_zero_right]; exact ha'.out
    · rw [if_neg hy0] at HD
      have hyl : 0 < (digs BB y).length := List.length_pos_iff.2 (fun e => hy0 ((digs_nil_iff BB_two _).1 e))
      have HR := Lib.hid (show Nat.gcd y (x % y) = Nat.gcd A B from by rw [← HG.out, Nat.gcd_comm x y, Nat.gcd_rec y x, Nat.gcd_comm])
      obtain ⟨p, k, rfl, -⟩ := hb.view
      go_wp2_with (go_at_call 9; (with_reducible refine HD.out.mono ?_); rintro e w3 ⟨v3, u3, rfl, hv3, hu3, hb3⟩)
      go_round
      case rel => exact ⟨y, x % y, hb.below hb3, hu3, HR.out, hy, Nat.le_trans (digs_mono (Nat.le_of_lt (Nat.mod_lt _ (by omega)))) hy, hB.trans (hb3.mono hB.size)⟩
      case measure =>
        rw [HM.out, numOf_eq hu3]
        exact Nat.mod_lt _ (by omega)
end Go.Proofs.YtmocoipenaodaaaDoor
