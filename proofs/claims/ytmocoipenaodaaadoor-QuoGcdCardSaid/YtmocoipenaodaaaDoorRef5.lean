/- The document's Double and Bit by their contracts. Conditions: the lists are short. -/
import Derived.Test.YtmocoipenaodaaaDoorQuo16
namespace Go.Proofs.YtmocoipenaodaaaDoor
open Go.RowKit

/-- The loop's relation in Double. -/
structure RDbl (w : World) (l : List Nat) (more S k cy : Nat) (X : List Nat) (v : Value) (wr : World) : Prop where
  toOwn : ToOwn w X v wr
  cy1 : cy ≤ 1
  len : X.length = k
  le : k ≤ l.length + 1
  last : cy = 0 ∨ k ≤ l.length
  sum : val DD X + DD ^ k * cy = 2 * val DD (l.take k) + more
  low : k = 0 ∨ DD ^ (k - 1) ≤ S

theorem RDbl.step {w wr wr' : World} {l : List Nat} {more S k cy : Nat} {X : List Nat} {v v' : Value} (h : RDbl w l more S k cy X v wr) (hdl : Dig DD l) (hS : S = 2 * val DD l + more)
    (hl : ∀ k, k < l.length → DD ^ k ≤ val DD l) (hgo : k < l.length ∨ 0 < cy)
    (ho : wr'.ownsRow w.heap.size 46 1 v' (X.length + 1) (X.map D32 ++ [D32 ((cy + 2 * l.getD k 0) % DD)])) (hb : Below w.heap.size w wr') :
    RDbl w l more S (k + 1) ((cy + 2 * l.getD k 0) / DD) (X ++ [(cy + 2 * l.getD k 0) % DD]) v' wr' := by
  have a1 := hdl.getD DD_pos k
  have hc := h.cy1
  have hq : (cy + 2 * l.getD k 0) / DD ≤ 1 := by
    rw [Nat.div_le_iff_le_mul_add_pred DD_pos]; omega
  have hlen := h.len
  refine ⟨⟨h.toOwn.dig.append (Dig.cons (Nat.mod_lt _ DD_pos) (Dig.nil _)), by rw [List.length_append, List.map_append]; exact ho, hb⟩, hq, by rw [List.length_append, hlen]; rfl, ?_, ?_, ?_, ?_⟩
  · rcases h.last with h0 | h0 <;> omega
  · by_cases hk : k + 1 ≤ l.length
    · exact .inr hk
    · left
      have e1 : l.getD k 0 = 0 := by
        rw [List.getD_eq_getElem?_getD, List.getElem?_eq_none (by omega)]; rfl
      rw [Nat.div_eq_of_lt]
      have : 2 ≤ DD := DD_two
      omega
  · have e := Nat.mod_add_div (cy + 2 * l.getD k 0) DD
    have hs := h.sum
    rw [val_append, val_one, hlen, val_take_succ, Nat.pow_succ, Nat.mul_assoc, Nat.add_assoc, ← Nat.mul_add, e, Nat.mul_add, Nat.mul_add, Nat.mul_left_comm (DD ^ k) 2]
    omega
  · right
    rw [Nat.add_sub_cancel, hS]
    by_cases hk : k < l.length
    · have := hl k hk; omega
    · rcases hgo with hg | hg
      · omega
      · have hs := h.sum
        obtain rfl : cy = 1 := by omega
        rw [val_take_ge DD l k (by omega)] at hs
        omega

theorem RDbl.fin {w wr : World} {l : List Nat} {more S k : Nat} {X : List Nat} {v : Value} (h : RDbl w l more S k 0 X v wr) (hS : S = 2 * val DD l + more) (h1 : l.length ≤ k) : RdD wr v (digs DD S) := by
  have hs := h.sum
  rw [val_take_ge DD l k h1, ← hS] at hs
  have hv : val DD X = S := by omega
  have := full_digs DD_two h.toOwn.dig (by rw [h.len, hv]; rcases h.low with h0 | h0; exact .inl h0; exact .inr h0)
  rw [← hv, ← this]
  exact Rd.of_own h.toOwn.own (fun _ _ => trivial)

set_option maxHeartbeats 800000 in
theorem rdouble_any {w : World} {v : Value} {A more : Nat} (h : RdD w v (digs DD A)) (hl : (digs DD A).length ≤ 1000000) (hm : more ≤ 1) :
    Calls Tryd.prog 28 #[v, D32 more] w (OneD w (digs DD (2 * A + more))) := by
  obtain ⟨i0, hi, hz0, hz1, hz2⟩ := info_parts infoD
  have dA := dig_digs DD_two A
  have lA := digs_low DD_two A
  have hS : 2 * A + more = 2 * val DD (digs DD A) + more := by rw [val_digs DD_two]
  have vA := val_digs DD_two A
  generalize digs DD A = l at *
  rw [← vA] at lA
  generalize 2 * A + more = S at *
  clear vA
  obtain ⟨a, c, rfl, h2, h3, h4, -⟩ := h.view
  have HL := Lib.hid h; clear h
  have LA := Lib.hid lA; have HS := Lib.hid hS; clear lA hS
  go_enter Tryd.func28, Tryd.ntmps28
  go_wp2
  go_loopw [5, 6, 7] (fun v cy i wr => ∃ (k cy' : Nat) (X : List Nat), i = .int .i64 k ∧ cy = D32 cy' ∧ RDbl w l more S k cy' X v wr) (fun _ _ i _ => l.length + 1 - (intOf i).toNat)
  case atStart => exact ⟨0, more, [], rfl, rfl, ⟨Dig.nil _, World.ownsRow_nil _ _ _ _, Below.refl _ _⟩, hm, rfl, Nat.zero_le _, .inr (Nat.zero_le _), by simp, .inl rfl⟩
  case round =>
    obtain ⟨k, cy, X, rfl, rfl, hR⟩ := hrel
    have HR := Lib.hid hR
    have hcy := hR.cy1; have hlen := hR.len; have hle := hR.le; have hlast := hR.last
    have hown := hR.toOwn.own; have hB := hR.toOwn.below
    have hsz := hB.size
    clear hR
    have hx := dA.getD DD_pos k
    unfold DD at hx
    by_cases hkl : k < l.length
    · have HST := Lib.hid (fun v' wr' ho hb => HR.out.step (v' := v') (wr' := wr') dA HS.out LA.out (.inl hkl) ho hb)
      obtain ⟨a1, c1, e1, -, -, -, hcx⟩ := (HL.out.below hB).view
      injection e1 with e1 e2 e3; subst e1 e3
      obtain ⟨g, of, rfl, hg, hcx⟩ := hcx k hkl
      rw [← List.getD_eq_getElem?_getD] at hcx
      clear e2
      generalize l.getD k 0 = x at *
      go_wp2_with (at_builtin; go_loud (refine wpList_append_own _ rfl _ _ 25 rfl w.heap.size 46 i0 (.int .u32 0) 1 4 Tryd.underlying25 hi hz0 hz1 hz2 rfl (by decide) _ _ _ rfl (hown.alloc _) ⟨wr.heap.size, 0, none⟩ 1 1 [.int .u32 (((cy : Int) + 2 * (x : Int)) % 65536)] rfl rfl (cell_one_new _ _ _) (by simp [Value.oneCell']) ?_ ?_ ?_ ?_; (focus (unfold maxLen; omega)); (focus omega); (focus (simp; omega)); intro v2 w2 hown2 hg2 _; have HN := Lib.hid (HST.out v2 w2 (by simpa [D32, DD] using hown2) ((hB.alloc hB.size _).grown hg2 (by simp; omega) (fun k hk => (hown.lt k hk).1))); clear hown2 hg2))
      go_round
      case rel => exact ⟨k + 1, (cy + 2 * x) / DD, _, by go_num, by simp [DD, D32], HN.out⟩
      case measure => simp [intOf]; omega
    · have zl : l.getD k 0 = 0 := by rw [List.getD_eq_getElem?_getD, List.getElem?_eq_none (by omega)]; rfl
      by_cases hc0 : cy = 0
      · subst hc0
        have RX := HR.out.fin HS.out (by omega)
        go_wp2
        go_ret
        exact ⟨_, rfl, RX, hB⟩
      · have HST := Lib.hid (fun v' wr' ho hb => HR.out.step (v' := v') (wr' := wr') dA HS.out LA.out (.inr (by omega)) ho hb)
        rw [zl] at HST
        clear hx zl
        go_wp2_with (at_builtin; go_loud (refine wpList_append_own _ rfl _ _ 25 rfl w.heap.size 46 i0 (.int .u32 0) 1 4 Tryd.underlying25 hi hz0 hz1 hz2 rfl (by decide) _ _ _ rfl (hown.alloc _) ⟨wr.heap.size, 0, none⟩ 1 1 [.int .u32 (((cy : Int)) % 65536)] rfl rfl (cell_one_new _ _ _) (by simp [Value.oneCell']) ?_ ?_ ?_ ?_; (focus (unfold maxLen; omega)); (focus omega); (focus (simp; omega)); intro v2 w2 hown2 hg2 _; have HN := Lib.hid (HST.out v2 w2 (by simpa [D32, DD] using hown2) ((hB.alloc hB.size _).grown hg2 (by simp; omega) (fun k hk => (hown.lt k hk).1))); clear hown2 hg2))
        go_round
        case rel => exact ⟨k + 1, (cy + 2 * 0) / DD, _, by go_num, by simp [DD, D32], HN.out⟩
        case measure => simp [intOf]; omega

/-- A bit of a number is one of a digit of it. -/
theorem digit_bit {l : List Nat} (hd : Dig DD l) (i : Nat) : val DD l / 2 ^ i % 2 = l.getD (i / 16) 0 / 2 ^ (i % 16) % 2 := by
  have e1 : val DD l / 2 ^ i = val DD l / DD ^ (i / 16) / 2 ^ (i % 16) := by
    rw [Nat.div_div_eq_div_mul, DD_pow, ← Nat.pow_mul, ← Nat.pow_add]
    congr 2; omega
  rw [e1, val_div DD_pos hd, val_drop_any]
  generalize l.getD (i / 16) 0 = x
  generalize val DD (l.drop (i / 16 + 1)) = V
  obtain ⟨r, hr⟩ : ∃ r, i % 16 + 1 + r = 16 := ⟨15 - i % 16, by omega⟩
  have e2 : DD = 2 ^ (i % 16) * (2 * 2 ^ r) := by
    generalize i % 16 = t at *
    rw [DD_pow, ← hr, Nat.pow_add, Nat.pow_succ, Nat.mul_assoc]
  rw [e2, Nat.mul_assoc, Nat.add_mul_div_left _ _ (Nat.pow_pos (by omega)), Nat.mul_assoc, Nat.add_mul_mod_self_left]

set_option maxHeartbeats 800000 in
theorem rbit_any {w : World} {v : Value} {A i : Nat} (h : RdD w v (digs DD A)) (hl : (digs DD A).length ≤ 1000000) (hi : i ≤ 100000000) :
    Calls Tryd.prog 29 #[v, .int .i64 i] w (fun e w' => e = .returned (D32 (A / 2 ^ i % 2)) ∧ w' = w) := by
  have hdb := digit_bit (dig_digs DD_two A) i
  rw [val_digs DD_two] at hdb
  have dA := dig_digs DD_two A
  generalize digs DD A = l at *
  rw [hdb]
  clear hdb
  obtain ⟨q, hq⟩ : ∃ q, i / 16 = q := ⟨_, rfl⟩
  obtain ⟨r, hr⟩ : ∃ r, i % 16 = r := ⟨_, rfl⟩
  have hqI : (i : Int) / 16 = (q : Int) := by omega
  have hrI : (i : Int) % 16 = (r : Int) := by omega
  have hqI2 : (i : Int).tdiv 16 = (q : Int) := by rw [Int.tdiv_eq_ediv_of_nonneg (by omega)]; exact hqI
  have hrI2 : (i : Int).tmod 16 = (r : Int) := by rw [Int.tmod_eq_emod_of_nonneg (by omega)]; exact hrI
  have hr16 : r < 16 := by omega
  rw [hq, hr]
  obtain ⟨a, c, rfl, h2, h3, h4, hc⟩ := h.view
  clear h hq hr
  by_cases hql : q < l.length
  · obtain ⟨g, of, rfl, hg, hcell⟩ := hc q hql
    rw [← List.getD_eq_getElem?_getD] at hcell
    have hx := dA.getD DD_pos q
    unfold DD at hx
    clear hc
    generalize l.getD q 0 = x at *
    go_enter Tryd.func29, Tryd.ntmps29
    go_wp2
    go_loop [5, 6] (fun x' k => ∃ j y : Nat, k = .int .i64 j ∧ x' = D32 y ∧ y ≤ x ∧ j ≤ r ∧ y = x / 2 ^ j) (fun _ k => r - (intOf k).toNat)
    case atStart => exact ⟨0, x, rfl, rfl, Nat.le_refl _, Nat.zero_le _, by simp⟩
    case round =>
      obtain ⟨j, y, rfl, rfl, hy, hj, hyj⟩ := hrel
      have HY := Lib.hid hyj
      clear hyj
      by_cases hjr : j < r
      · go_wp2
        go_round
        case rel => exact ⟨j + 1, y / 2, by go_num, by simp, by omega, by omega, by rw [HY.out, Nat.pow_succ, Nat.div_div_eq_div_mul]⟩
        case measure => simp [intOf]; omega
      · have hjr2 : j = r := by omega
        have HJ := Lib.hid hjr2
        go_wp2
        go_ret
        exact ⟨by rw [← HJ.out, ← HY.out]; simp, rfl⟩
  · have z : l.getD q 0 = 0 := by rw [List.getD_eq_getElem?_getD, List.getElem?_eq_none (by omega)]; rfl
    rw [z, Nat.zero_div]
    clear hc
    go_enter Tryd.func29, Tryd.ntmps29
    go_wp2
    go_ret
    exact ⟨rfl, rfl⟩
end Go.Proofs.YtmocoipenaodaaaDoor
