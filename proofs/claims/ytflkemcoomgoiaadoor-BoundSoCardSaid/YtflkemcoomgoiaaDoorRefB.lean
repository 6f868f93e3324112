/- The document's Double and Bit by their contracts. Conditions: the lists are short. -/
import Derived.Test.YtflkemcoomgoiaaDoorQuoE
import Derived.Test.YtflkemcoomgoiaaDoorRefA
import Derived.Test.YtflkemcoomgoiaaDoorCmpA
import Derived.Test.YtflkemcoomgoiaaDoorRef4
namespace Go.Proofs.YtflkemcoomgoiaaDoor
set_option maxRecDepth 100000
open Go.RowKit

/-- The loop's relation in Double. -/
structure RDbl (w : World) (l : List Nat) (more S k cy : Nat) (X : List Nat) (v : Value) (wr : World) : Prop where
  toOwn : ToOwn w X v wr
  cy1 : cy ≤ 1
  len : X.length = k
  le : k ≤ l.length + 1
  last : cy = 0 ∨ k ≤ l.length
  sum : val DD X + DD ^ k * cy = 2 * val DD (l.take k) + more
  low : k = 0 ∨ DD ^ (k - 1) ≤ S

theorem RDbl.step {w wr wr' : World} {l : List Nat} {more S k cy : Nat} {X : List Nat} {v v' : Value} (h : RDbl w l more S k cy X v wr) (hdl : Dig DD l) (hS : S = 2 * val DD l + more)
    (hl : ∀ k, k < l.length → DD ^ k ≤ val DD l) (hgo : k < l.length ∨ 0 < cy)
    (ho : wr'.ownsRow w.heap.size 33 1 v' (X.length + 1) (X.map D32 ++ [D32 ((cy + 2 * l.getD k 0) % DD)])) (hb : Below w.heap.size w wr') :
    RDbl w l more S (k + 1) ((cy + 2 * l.getD k 0) / DD) (X ++ [(cy + 2 * l.getD k 0) % DD]) v' wr' := by
  have a1 := hdl.getD DD_pos k
  have hc := h.cy1
  have hq : (cy + 2 * l.getD k 0) / DD ≤ 1 := by
    rw [Nat.div_le_iff_le_mul_add_pred DD_pos]; omega
  have hlen := h.len
  refine ⟨⟨h.toOwn.dig.append (Dig.cons (Nat.mod_lt _ DD_pos) (Dig.nil _)), by rw [List.length_append, List.map_append]; exact ho, hb⟩, hq, by rw [List.length_append, hlen]; rfl, ?_, ?_, ?_, ?_⟩
  · rcases h.last with h0 | h0 <;> omega
  · by_cases hk : k + 1 ≤ l.length
    · exact .inr hk
    · left
      have e1 : l.getD k 0 = 0 := by
        rw [List.getD_eq_getElem?_getD, List.getElem?_eq_none (by omega)]; rfl
      rw [Nat.div_eq_of_lt]
      have : 2 ≤ DD := DD_two
      omega
  · have e := Nat.mod_add_div (cy + 2 * l.getD k 0) DD
    have hs := h.sum
    rw [val_append, val_one, hlen, val_take_succ, Nat.pow_succ, Nat.mul_assoc, Nat.add_assoc, ← Nat.mul_add, e, Nat.mul_add, Nat.mul_add, Nat.mul_left_comm (DD ^ k) 2]
    omega
  · right
    rw [Nat.add_sub_cancel, hS]
    by_cases hk : k < l.length
    · have := hl k hk; omega
    · rcases hgo with hg | hg
      · omega
      · have hs := h.sum
        obtain rfl : cy = 1 := by omega
        rw [val_take_ge DD l k (by omega)] at hs
        omega

theorem RDbl.fin {w wr : World} {l : List Nat} {more S k : Nat} {X : List Nat} {v : Value} (h : RDbl w l more S k 0 X v wr) (hS : S = 2 * val DD l + more) (h1 : l.length ≤ k) : RdD wr v (digs DD S) := by
  have hs := h.sum
  rw [val_take_ge DD l k h1, ← hS] at hs
  have hv : val DD X = S := by omega
  have := full_digs DD_two h.toOwn.dig (by rw [h.len, hv]; rcases h.low with h0 | h0; exact .inl h0; exact .inr h0)
  rw [← hv, ← this]
  exact Rd.of_own h.toOwn.own (fun _ _ => trivial)

set_option maxHeartbeats 800000 in
theorem rdouble_any {w : World} {v : Value} {A more : Nat} (h : RdD w v (digs DD A)) (hl : (digs DD A).length ≤ 1000000) (hm : more ≤ 1) :
    Calls Tryd.prog 45 #[v, D32 more] w (OneD w (digs DD (2 * A + more))) := by
  obtain ⟨i0, hi, hz0, hz1, hz2⟩ := info_parts infoD
  have dA := dig_digs DD_two A
  have lA := digs_low DD_two A
  have hS : 2 * A + more = 2 * val DD (digs DD A) + more := by rw [val_digs DD_two]
  have vA := val_digs DD_two A
  generalize digs DD A = l at *
  rw [← vA] at lA
  generalize 2 * A + more = S at *
  clear vA
  obtain ⟨a, c, rfl, h2, h3, h4, -⟩ := h.view
  have HL := Lib.hid h; clear h
  have LA := Lib.hid lA; have HS := Lib.hid hS; clear lA hS
  go_enter Tryd.func45, Tryd.ntmps45
  go_wp2
  go_loopw [5, 6, 7] (fun v cy i wr => ∃ (k cy' : Nat) (X : List Nat), i = .int .i64 k ∧ cy = D32 cy' ∧ RDbl w l more S k cy' X v wr) (fun _ _ i _ => l.length + 1 - (intOf i).toNat)
  case atStart => exact ⟨0, more, [], rfl, rfl, ⟨Dig.nil _, World.ownsRow_nil _ _ _ _, Below.refl _ _⟩, hm, rfl, Nat.zero_le _, .inr (Nat.zero_le _), by simp, .inl rfl⟩
  case round =>
    obtain ⟨k, cy, X, rfl, rfl, hR⟩ := hrel
    have HR := Lib.hid hR
    have hcy := hR.cy1; have hlen := hR.len; have hle := hR.le; have hlast := hR.last
    have hown := hR.toOwn.own; have hB := hR.toOwn.below
    have hsz := hB.size
    clear hR
    have hx := dA.getD DD_pos k
    unfold DD at hx
    by_cases hkl : k < l.length
    · have HST := Lib.hid (fun v' wr' ho hb => HR.out.step (v' := v') (wr' := wr') dA HS.out LA.out (.inl hkl) ho hb)
      obtain ⟨a1, c1, e1, -, -, -, hcx⟩ := (HL.out.below hB).view
      injection e1 with e1 e2 e3; subst e1 e3
      obtain ⟨g, of, rfl, hg, hcx⟩ := hcx k hkl
      rw [← List.getD_eq_getElem?_getD] at hcx
      clear e2
      generalize l.getD k 0 = x at *
      go_wp2_with (at_builtin; go_loud (refine wpList_append_own _ rfl _ _ 29 rfl w.heap.size 33 i0 (.int .u32 0) 1 4 Tryd.underlying29 hi hz0 hz1 hz2 rfl (by decide) _ _ _ rfl (hown.alloc _) ⟨wr.heap.size, 0, none⟩ 1 1 [.int .u32 (((cy : Int) + 2 * (x : Int)) % 65536)] rfl rfl (cell_one_new _ _ _) (by simp [Value.oneCell']) ?_ ?_ ?_ ?_; (focus (unfold maxLen; omega)); (focus omega); (focus (simp; omega)); intro v2 w2 hown2 hg2 _; have HN := Lib.hid (HST.out v2 w2 (by simpa [D32, DD] using hown2) ((hB.alloc hB.size _).grown hg2 (by simp; omega) (fun k hk => (hown.lt k hk).1))); clear hown2 hg2))
      go_round
      case rel => exact ⟨k + 1, (cy + 2 * x) / DD, _, by go_num, by simp [DD, D32], HN.out⟩
      case measure => simp [intOf]; omega
    · have zl : l.getD k 0 = 0 := by rw [List.getD_eq_getElem?_getD, List.getElem?_eq_none (by omega)]; rfl
      by_cases hc0 : cy = 0
      · subst hc0
        have RX := HR.out.fin HS.out (by omega)
        go_wp2
        go_ret
        exact ⟨_, rfl, RX, hB⟩
      · have HST := Lib.hid (fun v' wr' ho hb => HR.out.step (v' := v') (wr' := wr') dA HS.out LA.out (.inr (by omega)) ho hb)
        rw [zl] at HST
        clear hx zl
        go_wp2_with (at_builtin; go_loud (refine wpList_append_own _ rfl _ _ 29 rfl w.heap.size 33 i0 (.int .u32 0) 1 4 Tryd.underlying29 hi hz0 hz1 hz2 rfl (by decide) _ _ _ rfl (hown.alloc _) ⟨wr.heap.size, 0, none⟩ 1 1 [.int .u32 (((cy : Int)) % 65536)] rfl rfl (cell_one_new _ _ _) (by simp [Value.oneCell']) ?_ ?_ ?_ ?_; (focus (unfold maxLen; omega)); (focus omega); (focus (simp; omega)); intro v2 w2 hown2 hg2 _; have HN := Lib.hid (HST.out v2 w2 (by simpa [D32, DD] using hown2) ((hB.alloc hB.size _).grown hg2 (by simp; omega) (fun k hk => (hown.lt k hk).1))); clear hown2 hg2))
        go_round
        case rel => exact ⟨k + 1, (cy + 2 * 0) / DD, _, by go_num, by simp [DD, D32], HN.out⟩
        case measure => simp [intOf]; omega

/-- A bit of a number is one of a digit of it. -/
theorem digit_bit {l : List Nat} (hd : Dig DD l) (i : Nat) : val DD l / 2 ^ i % 2 = l.getD (i / 16) 0 / 2 ^ (i % 16) % 2 := by
  have e1 : val DD l / 2 ^ i = val DD l / DD ^ (i / 16) / 2 ^ (i % 16) := by
    rw [Nat.div_div_eq_div_mul, DD_pow, ← Nat.pow_mul, ← Nat.pow_add]
    congr 2; omega
  rw [e1, val_div DD_pos hd, val_drop_any]
  generalize l.getD (i / 16) 0 = x
  generalize val DD (l.drop (i / 16 + 1)) = V
  obtain ⟨r, hr⟩ : ∃ r, i % 16 + 1 + r = 16 := ⟨15 - i % 16, by omega⟩
  have e2 : DD = 2 ^ (i % 16) * (2 * 2 ^ r) := by
    generalize i % 16 = t at *
    rw [DD_pow, ← hr, Nat.pow_add, Nat.pow_succ, Nat.mul_assoc]
  rw [e2, Nat.mul_assoc, Nat.add_mul_div_left _ _ (Nat.pow_pos (by omega)), Nat.mul_assoc, Nat.add_mul_mod_self_left]

set_option maxHeartbeats 800000 in
theorem rbit_any {w : World} {v : Value} {A i : Nat} (h : RdD w v (digs DD A)) (hl : (digs DD A).length ≤ 1000000) (hi : i ≤ 100000000) :
    Calls Tryd.prog 20 #[v, .int .i64 i] w (fun e w' => e = .returned (D32 (A / 2 ^ i % 2)) ∧ w' = w) := by
  have hdb := digit_bit (dig_digs DD_two A) i
  rw [val_digs DD_two] at hdb
  have dA := dig_digs DD_two A
  generalize digs DD A = l at *
  rw [hdb]
  clear hdb
  obtain ⟨q, hq⟩ : ∃ q, i / 16 = q := ⟨_, rfl⟩
  obtain ⟨r, hr⟩ : ∃ r, i % 16 = r := ⟨_, rfl⟩
  have hqI : (i : Int) / 16 = (q : Int) := by omega
  have hrI : (i : Int) % 16 = (r : Int) := by omega
  have hqI2 : (i : Int).tdiv 16 = (q : Int) := by rw [Int.tdiv_eq_ediv_of_nonneg (by omega)]; exact hqI
  have hrI2 : (i : Int).tmod 16 = (r : Int) := by rw [Int.tmod_eq_emod_of_nonneg (by omega)]; exact hrI
  have hr16 : r < 16 := by omega
  rw [hq, hr]
  obtain ⟨a, c, rfl, h2, h3, h4, hc⟩ := h.view
  clear h hq hr
  by_cases hql : q < l.length
  · obtain ⟨g, of, rfl, hg, hcell⟩ := hc q hql
    rw [← List.getD_eq_getElem?_getD] at hcell
    have hx := dA.getD DD_pos q
    unfold DD at hx
    clear hc
    generalize l.getD q 0 = x at *
    go_enter Tryd.func20, Tryd.ntmps20
    go_wp2
    go_loop [5, 6] (fun x' k => ∃ j y : Nat, k = .int .i64 j ∧ x' = D32 y ∧ y ≤ x ∧ j ≤ r ∧ y = x / 2 ^ j) (fun _ k => r - (intOf k).toNat)
    case atStart => exact ⟨0, x, rfl, rfl, Nat.le_refl _, Nat.zero_le _, by simp⟩
    case round =>
      obtain ⟨j, y, rfl, rfl, hy, hj, hyj⟩ := hrel
      have HY := Lib.hid hyj
      clear hyj
      by_cases hjr : j < r
      · go_wp2
        go_round
        case rel => exact ⟨j + 1, y / 2, by go_num, by simp, by omega, by omega, by rw [HY.out, Nat.pow_succ, Nat.div_div_eq_div_mul]⟩
        case measure => simp [intOf]; omega
      · have hjr2 : j = r := by omega
        have HJ := Lib.hid hjr2
        go_wp2
        go_ret
        exact ⟨by rw [← HJ.out, ← HY.out]; simp, rfl⟩
  · have z : l.getD q 0 = 0 := by rw [List.getD_eq_getElem?_getD, List.getElem?_eq_none (by omega)]; rfl
    rw [z, Nat.zero_div]
    clear hc
    go_enter Tryd.func20, Tryd.ntmps20
    go_wp2
    go_ret
    exact ⟨rfl, rfl⟩
end Go.Proofs.YtflkemcoomgoiaaDoor

/- The document's Cmp and Sub by their contracts. Conditions: the lists are short. -/
namespace Go.Proofs.YtflkemcoomgoiaaDoor
set_option maxRecDepth 100000
open Go.RowKit

set_option maxHeartbeats 800000 in
theorem rcmp_any {w : World} {v u : Value} {A B : Nat} (h : RdD w v (digs DD A)) (k : RdD w u (digs DD B)) (hl : (digs DD A).length ≤ 1000000) :
    Calls Tryd.prog 48 #[v, u] w (fun e w' => e = .returned (.int .i64 (cmpN A B)) ∧ Below w.heap.size w w') := by
  by_cases hlen : (digs DD A).length = (digs DD B).length
  · have vA := val_digs DD_two A
    have vB := val_digs DD_two B
    have dA := dig_digs DD_two A
    have dB := dig_digs DD_two B
    generalize digs DD A = l at *
    generalize digs DD B = m at *
    subst vA vB
    obtain ⟨a, c, rfl, h2, h3, h4, -⟩ := h.view
    obtain ⟨b, d, rfl, h2', h3', h4', -⟩ := k.view
    have HL := Lib.hid h; have HM := Lib.hid k; clear h k
    have HC := Lib.hid hlen
    rw [← hlen]
    clear hlen
    obtain ⟨r, hr⟩ : ∃ r, cmpN (val DD l) (val DD m) = r := ⟨_, rfl⟩
    rw [hr]
    have HRE := Lib.hid hr; clear hr
    go_enter Tryd.func48, Tryd.ntmps48
    go_wp2
    go_loopw [5] (fun i wr => ∃ (p : Nat) (jI : Int), i = .int .i64 jI ∧ jI + 1 = p ∧ p ≤ l.length ∧ (∀ t, p ≤ t → l.getD t 0 = m.getD t 0) ∧ Below w.heap.size w wr) (fun i _ => ((intOf i) + 1).toNat)
    case atStart => exact ⟨l.length, _, rfl, by omega, Nat.le_refl _, fun t ht => by
      rw [List.getD_eq_getElem?_getD, List.getD_eq_getElem?_getD, List.getElem?_eq_none ht, List.getElem?_eq_none (by rw [← HC.out]; exact ht)], Below.refl _ _⟩
    case round =>
      obtain ⟨p, jI, rfl, hjI, hp, hab, hB⟩ := hrel
      have HAB := Lib.hid hab
      clear hab
      cases p with
      | zero =>
        obtain rfl : jI = -1 := by omega
        have e := cmp_same (B := DD) HC.out (fun i _ => HAB.out i (Nat.zero_le _))
        go_wp2
        go_ret
        exact ⟨by rw [← HRE.out, e]; rfl, hB⟩
      | succ j =>
        obtain rfl : jI = j := by omega
        obtain ⟨a1, c1, e1, -, -, -, hcx⟩ := (HL.out.below hB).view
        injection e1 with e1 e2 e3; subst e1 e3
        obtain ⟨g, of, rfl, hg, hcx⟩ := hcx j (by omega)
        rw [← List.getD_eq_getElem?_getD] at hcx
        obtain ⟨a2, c2, f1, -, -, -, hcy⟩ := (HM.out.below hB).view
        injection f1 with f1 f2 f3; subst f1 f3
        obtain ⟨g', of', rfl, hg', hcy⟩ := hcy j (by rw [← HC.out]; omega)
        rw [← List.getD_eq_getElem?_getD] at hcy
        clear e2 f2
        have HTop := Lib.hid (cmp_top (j := j) dA dB HC.out (by omega) (fun i hi => HAB.out i hi))
        have hx := dA.getD DD_pos j; have hy := dB.getD DD_pos j
        have hAB2 := Lib.hid (show l.getD j 0 = m.getD j 0 → ∀ t, j ≤ t → l.getD t 0 = m.getD t 0 from fun h t ht => by
          rcases Nat.eq_or_lt_of_le ht with rfl | h2
          · exact h
          · exact HAB.out t h2)
        unfold DD at hx hy
        generalize l.getD j 0 = x at *
        generalize m.getD j 0 = y at *
        have hjl : j < l.length := by omega
        rcases Nat.lt_trichotomy x y with hxy | hxy | hxy
        · have t1 : decide ((x : Int) < (y : Int)) = true := decide_eq_true (by omega)
          have e := HTop.out (by omega)
          rw [cmpN_lt hxy] at e
          have HE := Lib.hid (HRE.out.symm.trans e.symm); clear e
          go_wp2_with (go_quiet (fail))
          go_ret
          exact ⟨by rw [HE.out]; rfl, below_drewN hB nq⟩
        · have H2 := Lib.hid (hAB2.out hxy)
          subst hxy
          go_wp2_with (go_quiet (fail))
          go_round
          case rel => exact ⟨j, _, rfl, by omega, by omega, H2.out, below_drewN hB _⟩
          case measure => simp [intOf]
        · have e := HTop.out (by omega)
          rw [cmpN_gt hxy] at e
          have HE := Lib.hid (HRE.out.symm.trans e.symm); clear e
          have t1 : decide (x < y) = false := decide_eq_false (by omega)
          have t2 : decide (y < x) = true := decide_eq_true hxy
          go_wp2_with (go_quiet (fail))
          go_ret
          exact ⟨by rw [HE.out]; rfl, below_drewN (below_drewN hB _) _⟩
  · have hc := cmp_len DD_two hlen
    rw [← hc]
    generalize digs DD A = l at *
    generalize digs DD B = m at *
    obtain ⟨a, c, rfl, h2, h3, h4, -⟩ := h.view
    obtain ⟨b, d, rfl, h2', h3', h4', -⟩ := k.view
    clear h k hc
    rcases Nat.lt_or_gt_of_ne hlen with hlt | hlt
    · rw [cmpN_lt hlt]
      have dx : ((l.length : Int) != (m.length : Int)) = true := by simp; omega
      go_enter Tryd.func48, Tryd.ntmps48
      go_wp2
      go_ret
      exact ⟨rfl, Below.refl _ _⟩
    · rw [cmpN_gt hlt]
      have dx : ((l.length : Int) != (m.length : Int)) = true := by simp; omega
      go_enter Tryd.func48, Tryd.ntmps48
      go_wp2
      go_ret
      exact ⟨rfl, Below.refl _ _⟩
end Go.Proofs.YtflkemcoomgoiaaDoor

/- The document's Sub by its contract. Conditions: the lists are short, the first number isn't nought nor less than the second. -/
namespace Go.Proofs.YtflkemcoomgoiaaDoor
set_option maxRecDepth 100000
open Go.RowKit

theorem own_form {w : World} {base : Nat} {e : TypeId} {v : Value} {n : Nat} {xs : List Value} (h : w.ownsRow base e 1 v n xs) (hn : 0 < n) : ∃ g cap, base ≤ g ∧ v = .slice (some ⟨g, 0, none⟩) n cap ∧ n ≤ cap ∧ cap ≤ 9223372036854775807 ∧ g < w.heap.size := by
  have hl := h.1
  rcases h.2 with ⟨rfl, rfl⟩ | ⟨g, cap, cur, rfl, h2, h3, h4, h5, -⟩
  · simp at hl; omega
  · refine ⟨g, cap, h2, rfl, by omega, by unfold maxLen at h5; omega, ?_⟩
    rcases Nat.lt_or_ge g w.heap.size with h | h
    · exact h
    · simp [Array.getElem?_eq_none h] at h3

/-- The loop's relation in Sub. -/
structure RSub (w : World) (l m : List Nat) (g cap k bw : Nat) (X : List Nat) (wr : World) : Prop where
  le : k ≤ l.length
  bw1 : bw ≤ 1
  len : X.length = l.length
  dig : Dig DD X
  above : ∀ j, k ≤ j → X.getD j 0 = l.getD j 0
  sum : val DD (X.take k) + val DD (m.take k) = val DD (l.take k) + DD ^ k * bw
  own : wr.ownsRow w.heap.size 33 1 (.slice (some ⟨g, 0, none⟩) l.length cap) l.length (X.map D32)
  below : Below w.heap.size w wr

theorem RSub.step {w wr : World} {l m : List Nat} {g cap k bw x bw' : Nat} {X : List Nat} (h : RSub w l m g cap k bw X wr) (hk : k < l.length) (hb : bw' ≤ 1) (hx : x < DD) (he : x + (bw + m.getD k 0) = l.getD k 0 + DD * bw') {wr' : World}
    (ho : wr'.ownsRow w.heap.size 33 1 (.slice (some ⟨g, 0, none⟩) l.length cap) l.length ((X.set k x).map D32)) (hw : Below w.heap.size w wr') : RSub w l m g cap (k + 1) bw' (X.set k x) wr' := by
  refine ⟨hk, hb, by rw [List.length_set]; exact h.len, h.dig.set _ hx, fun j hj => by rw [getD_set_ne (by omega)]; exact h.above j (by omega), ?_, ho, hw⟩
  have hs := h.sum
  have e2 := congrArg (DD ^ k * ·) he
  simp only [Nat.mul_add] at e2
  rw [val_set_take DD X _ _ (by rw [h.len]; exact hk), val_take_succ, val_take_succ, Nat.pow_succ, Nat.mul_assoc]
  omega

theorem RSub.fin {w wr : World} {A B g cap bw : Nat} {X : List Nat} (h : RSub w (digs DD A) (digs DD B) g cap (digs DD A).length bw X wr) (hB : B ≤ A) : strip X = digs DD (A - B) := by
  have hs := h.sum
  have hml : (digs DD B).length ≤ (digs DD A).length := (digs_length_le DD_two _ _).2 (Nat.lt_of_le_of_lt hB ((digs_length_le DD_two _ _).1 (Nat.le_refl _)))
  have e1 : X.take (digs DD A).length = X := by rw [← h.len, List.take_length]
  rw [e1, val_take_ge DD _ _ hml, List.take_length, val_digs DD_two, val_digs DD_two] at hs
  have hlt := val_lt h.dig
  rw [h.len] at hlt
  have h0 : bw = 0 := by
    rcases Nat.eq_zero_or_pos bw with h | h
    · exact h
    · have := Nat.mul_le_mul_left (DD ^ (digs DD A).length) h
      omega
  rw [h0, Nat.mul_zero, Nat.add_zero] at hs
  rw [strip_eq DD_two h.dig, show val DD X = A - B by omega]

set_option maxHeartbeats 1000000 in
theorem rsub_any {w : World} {v u : Value} {A B : Nat} (h : RdD w v (digs DD A)) (k : RdD w u (digs DD B)) (hl : (digs DD A).length ≤ 1000000) (hB : B ≤ A) (h0 : 0 < A) :
    Calls Tryd.prog 49 #[v, u] w (OneD w (digs DD (A - B))) := by
  obtain ⟨i0, hi, hz0, hz1, hz2⟩ := info_parts infoD
  have dA := dig_digs DD_two A
  have dB := dig_digs DD_two B
  have hlp : 0 < (digs DD A).length := List.length_pos_iff.2 (fun e => by have := (digs_nil_iff DD_two A).1 e; omega)
  have HF := Lib.hid (fun (w wr : World) (g cap bw : Nat) (X : List Nat) (h : RSub w (digs DD A) (digs DD B) g cap (digs DD A).length bw X wr) => h.fin hB)
  generalize digs DD A = l at *
  generalize digs DD B = m at *
  generalize A - B = C at *
  clear hB h0
  obtain ⟨a, c, rfl, h2, h3, h4, -⟩ := h.view
  obtain ⟨b, d, rfl, h2', h3', h4', -⟩ := k.view
  have HL := Lib.hid h; have HM := Lib.hid k; clear h k
  go_enter Tryd.func49, Tryd.ntmps49
  go_wp2_with (at_builtin; go_loud (refine wpList_append_rd (N := fun _ => True) (xs := []) (ys := l.map D32) (n := 0) rfl (.tmp 9) (.tmp 10) 29 rfl w.heap.size 33 i0 (.int .u32 0) 4 Tryd.underlying29 hi hz0 hz1 hz2 rfl rfl rfl (own_zero (heap_alloc_new _ _) (Nat.le_refl _)) (HL.out.keep (S := fun _ => False) ((Fr.refl _ _).alloc _) (fun _ _ h => h)) (one32 _) (by rw [List.length_map]; unfold maxLen; omega) (by rw [List.length_map]; omega) (by simp) ?_; intro v1 w1 own1 hg1))
  rw [List.length_map] at own1
  simp only [List.nil_append, Nat.zero_add] at own1
  obtain ⟨g, cap, hg0, rfl, hcap, hcap2, hgl⟩ := own_form own1 hlp
  have HST := Lib.hid (show RSub w l m g cap 0 0 l w1 from ⟨Nat.zero_le _, Nat.zero_le _, rfl, dA, fun _ _ => rfl, by simp, own1, ((Below.refl _ _).alloc (Nat.le_refl _) _).grown hg1 (by simp) (fun k hk => by simp [Value.ownBlock, Act.eval] at hk; omega)⟩)
  clear own1 hg1
  go_loopw [6, 7] (fun bw i wr => ∃ (k bw' : Nat) (X : List Nat), i = .int .i64 k ∧ bw = D32 bw' ∧ RSub w l m g cap k bw' X wr) (fun _ i _ => l.length - (intOf i).toNat)
  case atStart => exact ⟨0, 0, l, rfl, rfl, HST.out⟩
  case round =>
    obtain ⟨k, bw, X, rfl, rfl, hR⟩ := hrel
    have HR := Lib.hid hR
    have hk := hR.le; have hbw := hR.bw1; have hB := hR.below; have hXl := hR.len
    by_cases hkl : k < l.length
    · have hca := hR.own.cellAt k (by omega)
      rw [List.getElem?_map, List.getElem?_eq_getElem (by omega), Option.map_some, ← getD_lt, hR.above k (Nat.le_refl _)] at hca
      have hfr := hR.own.frozenAt k
      have hx := dA.getD DD_pos k; have hy := dB.getD DD_pos k
      unfold DD at hx hy
      have HNext := Lib.hid (fun (x' bw' : Nat) (wr' : World) (h1 : bw' ≤ 1) (h2 : x' < DD) (h3 : x' + (bw + m.getD k 0) = l.getD k 0 + DD * bw') (ho : wr'.ownsRow w.heap.size 33 1 (.slice (some ⟨g, 0, none⟩) l.length cap) l.length ((X.set k x').map D32)) (hw : Below w.heap.size w wr') => hR.step hkl h1 h2 h3 ho hw)
      have HS1 := Lib.hid (fun (x' : Nat) => show (wr.setCell ⟨g, k, none⟩ (D32 x')).ownsRow w.heap.size 33 1 (.slice (some ⟨g, 0, none⟩) l.length cap) l.length ((X.set k x').map D32) from by rw [List.map_set]; exact (hR.own.stored k _).1)
      have HS2 := Lib.hid (fun (x' y' : Nat) => show ((wr.setCell ⟨g, k, none⟩ (D32 y')).setCell ⟨g, k, none⟩ (D32 x')).ownsRow w.heap.size 33 1 (.slice (some ⟨g, 0, none⟩) l.length cap) l.length ((X.set k x').map D32) from by
        have := ((hR.own.stored k (D32 y')).1.stored k (D32 x')).1
        rw [← List.map_set, ← List.map_set, List.set_set] at this
        exact this)
      clear hR
      by_cases hkm : k < m.length
      · obtain ⟨a2, c2, f1, -, -, -, hcy⟩ := (HM.out.below hB).view
        injection f1 with f1 f2 f3; subst f1 f3
        obtain ⟨g', of', rfl, hg', hcy⟩ := hcy k hkm
        rw [← List.getD_eq_getElem?_getD] at hcy
        clear f2
        generalize m.getD k 0 = y at *
        generalize l.getD k 0 = x at *
        by_cases hlt : x < bw + y
        · go_wp2
          go_round
          case rel =>
            have e1 : (x : Int) + 65536 - ((bw : Int) + (y : Int)) = ((x + 65536 - (bw + y) : Nat) : Int) := by omega
            rw [e1]
            exact ⟨k + 1, 1, _, by go_num, rfl, HNext.out _ 1 _ (Nat.le_refl _) (by unfold DD; omega) (by unfold DD; omega) (HS2.out _ (x + 65536)) ((hB.setCell (p := ⟨g, k, none⟩) hg0 _).setCell (p := ⟨g, k, none⟩) hg0 _)⟩
          case measure => simp [intOf]; omega
        · go_wp2
          go_round
          case rel =>
            have e1 : (x : Int) - ((bw : Int) + (y : Int)) = ((x - (bw + y) : Nat) : Int) := by omega
            rw [e1]
            exact ⟨k + 1, 0, _, by go_num, rfl, HNext.out _ 0 _ (Nat.zero_le _) (by unfold DD; omega) (by omega) (HS1.out _) (hB.setCell (p := ⟨g, k, none⟩) hg0 _)⟩
          case measure => simp [intOf]; omega
      · have z : m.getD k 0 = 0 := by rw [List.getD_eq_getElem?_getD, List.getElem?_eq_none (by omega)]; rfl
        rw [z] at HNext
        clear hy z
        generalize l.getD k 0 = x at *
        by_cases hlt : x < bw
        · go_wp2
          go_round
          case rel =>
            have e1 : (x : Int) + 65536 - (bw : Int) = ((x + 65536 - bw : Nat) : Int) := by omega
            rw [e1]
            exact ⟨k + 1, 1, _, by go_num, rfl, HNext.out _ 1 _ (Nat.le_refl _) (by unfold DD; omega) (by unfold DD; omega) (HS2.out _ (x + 65536)) ((hB.setCell (p := ⟨g, k, none⟩) hg0 _).setCell (p := ⟨g, k, none⟩) hg0 _)⟩
          case measure => simp [intOf]; omega
        · go_wp2
          go_round
          case rel =>
            have e1 : (x : Int) - (bw : Int) = ((x - bw : Nat) : Int) := by omega
            rw [e1]
            exact ⟨k + 1, 0, _, by go_num, rfl, HNext.out _ 0 _ (Nat.zero_le _) (by unfold DD; omega) (by omega) (HS1.out _) (hB.setCell (p := ⟨g, k, none⟩) hg0 _)⟩
          case measure => simp [intOf]; omega
    · have hkl2 : k = l.length := by omega
      subst hkl2
      have E := HF.out _ _ _ _ _ _ hR
      have RX : RdD _ _ X := Rd.of_own hR.own (fun _ _ => trivial)
      clear hR
      go_wp2_with (go_at_call 43; (with_reducible refine (norm_any RX ?_).mono ?_); (focus omega); rintro e w2 ⟨v2, rfl, hr2, hb2⟩)
      go_ret
      rw [E] at hr2
      exact ⟨_, rfl, hr2, hB.trans (hb2.mono hB.size)⟩
end Go.Proofs.YtflkemcoomgoiaaDoor

/- The document's Div by its contract. Conditions: the lists are short, the divisor isn't nought. -/
namespace Go.Proofs.YtflkemcoomgoiaaDoor
set_option maxRecDepth 100000
open Go.RowKit

theorem digsD_mono {a b : Nat} (h : a ≤ b) : (digs DD a).length ≤ (digs DD b).length :=
  (digs_length_le DD_two _ _).2 (Nat.lt_of_le_of_lt h ((digs_length_le DD_two _ _).1 (Nat.le_refl _)))

/-- One round of dividing by bits. -/
theorem div_round (A B j : Nat) (hB : 0 < B) : A / 2 ^ j = 2 * (A / 2 ^ (j + 1)) + A / 2 ^ j % 2 ∧
    (2 * (A / 2 ^ (j + 1) % B) + A / 2 ^ j % 2 < B → A / 2 ^ j / B = 2 * (A / 2 ^ (j + 1) / B) ∧ A / 2 ^ j % B = 2 * (A / 2 ^ (j + 1) % B) + A / 2 ^ j % 2) ∧
    (B ≤ 2 * (A / 2 ^ (j + 1) % B) + A / 2 ^ j % 2 → A / 2 ^ j / B = 2 * (A / 2 ^ (j + 1) / B) + 1 ∧ A / 2 ^ j % B = 2 * (A / 2 ^ (j + 1) % B) + A / 2 ^ j % 2 - B) := by
  have e1 : A / 2 ^ (j + 1) = A / 2 ^ j / 2 := by rw [Nat.pow_succ, Nat.div_div_eq_div_mul]
  rw [e1]
  generalize A / 2 ^ j = T
  have e2 : T = 2 * (T / 2) + T % 2 := by omega
  have e3 := Nat.mod_add_div (T / 2) B
  have hlt := Nat.mod_lt (T / 2) hB
  have hm := Nat.mod_lt T (show 0 < 2 by omega)
  generalize T % 2 = d at *
  generalize T / 2 = t at *
  generalize t / B = q at *
  generalize t % B = r at *
  refine ⟨e2, fun h => ?_, fun h => ?_⟩
  · have e : T = B * (2 * q) + (2 * r + d) := by rw [e2, ← e3, Nat.mul_left_comm B 2 q]; omega
    rw [e, Nat.mul_add_div hB, Nat.div_eq_of_lt h, Nat.mul_add_mod, Nat.mod_eq_of_lt h]
    exact ⟨rfl, rfl⟩
  · have e : T = B * (2 * q + 1) + (2 * r + d - B) := by rw [e2, ← e3, Nat.mul_add B, Nat.mul_left_comm B 2 q]; omega
    have h2 : 2 * r + d - B < B := by omega
    rw [e, Nat.mul_add_div hB, Nat.div_eq_of_lt h2, Nat.mul_add_mod, Nat.mod_eq_of_lt h2]
    exact ⟨rfl, rfl⟩

theorem bitsD {A k : Nat} (h : (digs DD A).length ≤ k) : bitN A ≤ 16 * k := by
  rw [bitN_le, Nat.pow_mul, ← DD_pow]
  exact (digs_length_le DD_two A k).1 h

/-- What the document's Div leaves. -/
def TwoD (w : World) (a b : Nat) (e : Ending) (w' : World) : Prop :=
  ∃ v u, e = .returned (.tuple #[v, u]) ∧ RdD w' v (digs DD a) ∧ RdD w' u (digs DD b) ∧ Below w.heap.size w w'

end Go.Proofs.YtflkemcoomgoiaaDoor

/- Digits to 65536 that are a number: the document's sums, products, orders by the value alone; its Shl. Conditions: the numbers are short. -/
namespace Go.Proofs.YtflkemcoomgoiaaDoor
set_option maxRecDepth 100000
open Go.RowKit Go.ChangeShapes Go.WideShapes

theorem radd_n {w : World} {v u : Value} {A B C : Nat} (h : RdD w v (digs DD A)) (k : RdD w u (digs DD B)) (e : A + B = C) (sA : bitN A ≤ 400000) (sB : bitN B ≤ 400000) :
    Calls Tryd.prog 47 #[v, u] w (OneD w (digs DD C)) := by
  subst e
  exact radd_any h k (Nat.le_trans (digsDlen sA) (by omega)) (Nat.le_trans (digsDlen sB) (by omega))
theorem rcmp_n {w : World} {v u : Value} {A B : Nat} {c : Int} (h : RdD w v (digs DD A)) (k : RdD w u (digs DD B)) (e : cmpN A B = c) (sA : bitN A ≤ 400000) :
    Calls Tryd.prog 48 #[v, u] w (fun e w' => e = .returned (.int .i64 c) ∧ Below w.heap.size w w') := by
  subst e
  exact rcmp_any h k (Nat.le_trans (digsDlen sA) (by omega))
theorem rbits_n {w : World} {v : Value} {A b : Nat} (h : RdD w v (digs DD A)) (e : bitN A = b) (sA : bitN A ≤ 400000) :
    Calls Tryd.prog 44 #[v] w (fun e w' => e = .returned (.int .i64 (b : Int)) ∧ w' = w) := by
  subst e
  exact refbits_any h (Nat.le_trans (digsDlen sA) (by omega))
theorem to_n {w : World} {v : Value} {A : Nat} (h : Num w v A) : Calls Tryd.prog 19 #[v] w (OneD w (digs DD A)) := by
  obtain ⟨l, h1, h2, h3, rfl⟩ := h
  exact to_any h1 h2 (by omega)

theorem digs_up {A : Nat} (hA : A ≠ 0) : ∀ k, digs DD (A * DD ^ k) = List.replicate k 0 ++ digs DD A
  | 0 => by rw [Nat.pow_zero, Nat.mul_one]; rfl
  | k + 1 => by
    have e : A * DD ^ (k + 1) = 0 + DD * (A * DD ^ k) := by rw [Nat.pow_succ, Nat.zero_add, ← Nat.mul_assoc, Nat.mul_comm]
    have h0 : A * DD ^ k ≠ 0 := Nat.mul_ne_zero hA (Nat.ne_of_gt (Nat.pow_pos DD_pos))
    rw [e, digs_cons DD_two DD_pos (by rw [Nat.zero_add]; exact Nat.mul_ne_zero (by decide) h0), digs_up hA k]
    rfl

set_option maxHeartbeats 800000 in
theorem rshl_n {w : World} {v : Value} {A n : Nat} (h : RdD w v (digs DD A)) (sA : bitN A + n ≤ 200000) :
    Calls Tryd.prog 46 #[v, .int .i64 n] w (OneD w (digs DD (A * 2 ^ n))) := by
  obtain ⟨i0, hi, hz0, hz1, hz2⟩ := info_parts infoD
  by_cases h0 : A = 0
  · subst h0
    rw [Nat.zero_mul]
    rw [digs_zero] at h ⊢
    obtain ⟨a, c, rfl, -⟩ := h.view
    go_enter Tryd.func46, Tryd.ntmps46
    go_wp2
    go_ret
    exact ⟨_, rfl, Rd.nil _ _, Below.refl _ _⟩
  · have hsn : digs DD A ≠ [] := fun e => h0 ((digs_nil_iff DD_two _).1 e)
    have hsl := List.length_pos_iff.2 hsn
    have hsi : ((digs DD A).length : Int) ≠ 0 := by omega
    have hll : (digs DD A).length ≤ 200000 := digsDlen (by omega)
    have hup := digs_up h0
    obtain ⟨q, hq⟩ : ∃ q, n / 16 = q := ⟨_, rfl⟩
    obtain ⟨r, hr⟩ : ∃ r, n % 16 = r := ⟨_, rfl⟩
    have hqI : (n : Int).tdiv 16 = (q : Int) := by rw [Int.tdiv_eq_ediv_of_nonneg (by omega)]; omega
    have hrI : (n : Int).tmod 16 = (r : Int) := by rw [Int.tmod_eq_emod_of_nonneg (by omega)]; omega
    have hn : A * 2 ^ n = A * DD ^ q * 2 ^ r := by
      rw [Nat.mul_assoc, DD_pow, ← Nat.pow_mul, ← Nat.pow_add]; congr 2; omega
    have hlen : ∀ j, j ≤ r → bitN (A * DD ^ q * 2 ^ j) ≤ 400000 := fun j hj => by
      have e1 := bitN_mul_le (A * DD ^ q) (2 ^ j)
      have e2 := bitN_mul_le A (DD ^ q)
      have e3 : bitN (DD ^ q) ≤ 16 * q + 1 := bitN_le.2 (by rw [DD_pow, ← Nat.pow_mul]; exact Nat.pow_lt_pow_right (by omega) (by omega))
      have e4 : bitN (2 ^ j) ≤ j + 1 := bitN_le.2 (Nat.pow_lt_pow_right (by omega) (by omega))
      omega
    have HUP := Lib.hid (hup q); have HLN := Lib.hid hlen; have HN := Lib.hid hn
    generalize hA' : digs DD A = l at *
    have hr16 : r < 16 := by omega
    have hq2 : q ≤ 200000 := by omega
    clear hup hlen hn hq hr
    obtain ⟨a, c, rfl, h2, h3, h4, -⟩ := h.view
    have HL := Lib.hid h; clear h
    go_enter Tryd.func46, Tryd.ntmps46
    go_wp2_with (first
      | (at_make; go_loud (refine wpList_make_full _ rfl (.tmp 11) (.tmp 11) 29 rfl w.heap.size 33 i0 (.int .u32 0) 1 Tryd.underlying29 hi hz0 hz1 .i64 .i64 q q q rfl rfl rfl rfl ?_ ?_ ?_ ?_; (any_goals (first | rfl | (rw [hz2]; omega) | (unfold maxLen; omega) | (with_reducible exact Nat.le_refl _))); intro w0 hown0 hgrow0))
      | (at_builtin; go_loud (refine wpList_append_rd (N := fun _ => True) (xs := (madeCells (Value.int .u32 0).cells (q * 1)).toList) (ys := l.map D32) (n := q) rfl (.tmp 12) (.tmp 13) 29 rfl w.heap.size 33 i0 (.int .u32 0) 4 Tryd.underlying29 hi hz0 hz1 hz2 rfl rfl rfl hown0 (HL.out.below ((Below.refl _ _).grown hgrow0 (Nat.le_refl _) (by simp))) (one32 _) (by rw [List.length_map]; unfold maxLen; omega) (by rw [List.length_map]; omega) (by have := hgrow0.size; omega) ?_; intro v1 w1 own1 hg1)))
    have R1 : RdD w1 v1 (digs DD (A * DD ^ q * 2 ^ 0)) := by
      rw [Nat.pow_zero, Nat.mul_one, HUP.out]
      rw [made_zero32, ← List.map_append] at own1
      exact Rd.of_own own1 (fun _ _ => trivial)
    have HB1 : Below w.heap.size w w1 := ((Below.refl _ _).grown hgrow0 (Nat.le_refl _) (by simp)).grown hg1 hgrow0.size (fun k hk => by simp [Value.ownBlock, Act.eval] at hk; omega)
    have HST := Lib.hid (And.intro R1 HB1)
    clear R1 HB1 own1 hg1 hown0 hgrow0
    go_loopw [5, 6] (fun x i wr => ∃ j : Nat, i = .int .i64 j ∧ j ≤ r ∧ RdD wr x (digs DD (A * DD ^ q * 2 ^ j)) ∧ Below w.heap.size w wr) (fun _ i _ => r - (intOf i).toNat)
    case atStart => exact ⟨0, rfl, Nat.zero_le _, HST.out⟩
    case round =>
      clear HST
      obtain ⟨j, rfl, hj, hX, hB⟩ := hrel
      by_cases hjr : j < r
      · have HD := Lib.hid (show Calls Tryd.prog 45 #[_, .int .u32 0] wr (OneD wr (digs DD (2 * (A * DD ^ q * 2 ^ j) + 0))) from rdouble_any (more := 0) hX (Nat.le_trans (digsDlen (HLN.out j hj)) (by omega)) (by omega))
        rw [Nat.add_zero, Nat.mul_comm 2, Nat.mul_assoc, ← Nat.pow_succ] at HD
        go_wp2_with (go_at_call 45; (with_reducible refine HD.out.mono ?_); rintro e w2 ⟨v2, rfl, hv2, hb2⟩)
        go_round
        case rel => exact ⟨j + 1, by go_num, hjr, hv2, hB.trans (hb2.mono hB.size)⟩
        case measure => simp [intOf]; omega
      · obtain rfl : j = r := by omega
        rw [← HN.out] at hX
        go_wp2
        go_ret
        exact ⟨_, rfl, hX, hB⟩
end Go.Proofs.YtflkemcoomgoiaaDoor
