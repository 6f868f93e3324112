/- The document's Cmp and Sub by their contracts. Conditions: the lists are short. -/
import Derived.Test.YtmocoipenaodaaaDoorRef5
namespace Go.Proofs.YtmocoipenaodaaaDoor
open Go.RowKit

set_option maxHeartbeats 800000 in
theorem rcmp_any {w : World} {v u : Value} {A B : Nat} (h : RdD w v (digs DD A)) (k : RdD w u (digs DD B)) (hl : (digs DD A).length ≤ 1000000) :
    Calls Tryd.prog 30 #[v, u] w (fun e w' => e = .returned (.int .i64 (cmpN A B)) ∧ Below w.heap.size w w') := by
  by_cases hlen : (digs DD A).length = (digs DD B).length
  · have vA := val_digs DD_two A
    have vB := val_digs DD_two B
    have dA := dig_digs DD_two A
    have dB := dig_digs DD_two B
    generalize digs DD A = l at *
    generalize digs DD B = m at *
    subst vA vB
    obtain ⟨a, c, rfl, h2, h3, h4, -⟩ := h.view
    obtain ⟨b, d, rfl, h2', h3', h4', -⟩ := k.view
    have HL := Lib.hid h; have HM := Lib.hid k; clear h k
    have HC := Lib.hid hlen
    rw [← hlen]
    clear hlen
    obtain ⟨r, hr⟩ : ∃ r, cmpN (val DD l) (val DD m) = r := ⟨_, rfl⟩
    rw [hr]
    have HRE := Lib.hid hr; clear hr
    go_enter Tryd.func30, Tryd.ntmps30
    go_wp2
    go_loopw [5] (fun i wr => ∃ (p : Nat) (jI : Int), i = .int .i64 jI ∧ jI + 1 = p ∧ p ≤ l.length ∧ (∀ t, p ≤ t → l.getD t 0 = m.getD t 0) ∧ Below w.heap.size w wr) (fun i _ => ((intOf i) + 1).toNat)
    case atStart => exact ⟨l.length, _, rfl, by omega, Nat.le_refl _, fun t ht => by
      rw [List.getD_eq_getElem?_getD, List.getD_eq_getElem?_getD, List.getElem?_eq_none ht, List.getElem?_eq_none (by rw [← HC.out]; exact ht)], Below.refl _ _⟩
    case round =>
      obtain ⟨p, jI, rfl, hjI, hp, hab, hB⟩ := hrel
      have HAB := Lib.hid hab
      clear hab
      cases p with
      | zero =>
        obtain rfl : jI = -1 := by omega
        have e := cmp_same (B := DD) HC.out (fun i _ => HAB.out i (Nat.zero_le _))
        go_wp2
        go_ret
        exact ⟨by rw [← HRE.out, e]; rfl, hB⟩
      | succ j =>
        obtain rfl : jI = j := by omega
        obtain ⟨a1, c1, e1, -, -, -, hcx⟩ := (HL.out.below hB).view
        injection e1 with e1 e2 e3; subst e1 e3
        obtain ⟨g, of, rfl, hg, hcx⟩ := hcx j (by omega)
        rw [← List.getD_eq_getElem?_getD] at hcx
        obtain ⟨a2, c2, f1, -, -, -, hcy⟩ := (HM.out.below hB).view
        injection f1 with f1 f2 f3; subst f1 f3
        obtain ⟨g', of', rfl, hg', hcy⟩ := hcy j (by rw [← HC.out]; omega)
        rw [← List.getD_eq_getElem?_getD] at hcy
        clear e2 f2
        have HTop := Lib.hid (cmp_top (j := j) dA dB HC.out (by omega) (fun i hi => HAB.out i hi))
        have hx := dA.getD DD_pos j; have hy := dB.getD DD_pos j
        have hAB2 := Lib.hid (show l.getD j 0 = m.getD j 0 → ∀ t, j ≤ t → l.getD t 0 = m.getD t 0 from fun h t ht => by
          rcases Nat.eq_or_lt_of_le ht with rfl | h2
          · exact h
          · exact HAB.out t h2)
        unfold DD at hx hy
        generalize l.getD j 0 = x at *
        generalize m.getD j 0 = y at *
        have hjl : j < l.length := by omega
        rcases Nat.lt_trichotomy x y with hxy | hxy | hxy
        · have t1 : decide ((x : Int) < (y : Int)) = true := decide_eq_true (by omega)
          have e := HTop.out (by omega)
          rw [cmpN_lt hxy] at e
          have HE := Lib.hid (HRE.out.symm.trans e.symm); clear e
          go_wp2_with (go_quiet (fail))
          go_ret
          exact ⟨by rw [HE.out]; rfl, below_drewN hB nq⟩
        · have H2 := Lib.hid (hAB2.out hxy)
          subst hxy
          go_wp2_with (go_quiet (fail))
          go_round
          case rel => exact ⟨j, _, rfl, by omega, by omega, H2.out, below_drewN hB _⟩
          case measure => simp [intOf]
        · have e := HTop.out (by omega)
          rw [cmpN_gt hxy] at e
          have HE := Lib.hid (HRE.out.symm.trans e.symm); clear e
          have t1 : decide (x < y) = false := decide_eq_false (by omega)
          have t2 : decide (y < x) = true := decide_eq_true hxy
          go_wp2_with (go_quiet (fail))
          go_ret
          exact ⟨by rw [HE.out]; rfl, below_drewN (below_drewN hB _) _⟩
  · have hc := cmp_len DD_two hlen
    rw [← hc]
    generalize digs DD A = l at *
    generalize digs DD B = m at *
    obtain ⟨a, c, rfl, h2, h3, h4, -⟩ := h.view
    obtain ⟨b, d, rfl, h2', h3', h4', -⟩ := k.view
    clear h k hc
    rcases Nat.lt_or_gt_of_ne hlen with hlt | hlt
    · rw [cmpN_lt hlt]
      have dx : ((l.length : Int) != (m.length : Int)) = true := by simp; omega
      go_enter Tryd.func30, Tryd.ntmps30
      go_wp2
      go_ret
      exact ⟨rfl, Below.refl _ _⟩
    · rw [cmpN_gt hlt]
      have dx : ((l.length : Int) != (m.length : Int)) = true := by simp; omega
      go_enter Tryd.func30, Tryd.ntmps30
      go_wp2
      go_ret
      exact ⟨rfl, Below.refl _ _⟩
end Go.Proofs.YtmocoipenaodaaaDoor
