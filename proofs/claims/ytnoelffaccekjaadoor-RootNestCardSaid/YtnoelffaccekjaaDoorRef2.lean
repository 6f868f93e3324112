/- The document's numbers: Num, Bits, Same, Add, Of by their contracts. Conditions: the lists are short, the digits are digits. -/
import Derived.Test.YtnoelffaccekjaaDoorRef1
import Derived.BigQuiet
import Derived.Deep.QuietTactic
namespace Go.Proofs.YtnoelffaccekjaaDoor
open Go.RowKit

theorem num_any {w : World} {n : Nat} (hn : n < BB) : Calls Tryd.prog 13 #[L64 n] w (OneD w (digs DD n)) := by
  have HT := Lib.hid (fun w v (h : RdN w v [n]) => to_any h (Dig.cons hn (Dig.nil _)) (by simp))
  rw [val_one] at HT
  go_enter Tryd.func13, Tryd.ntmps13
  go_wp2_with (go_at_call 9; (with_reducible refine (HT.out _ _ ?_).mono ?_); (exact rd_one (heap_alloc_new _ _) trivial); rintro e w1 ⟨v1, rfl, hr, hb⟩)
  go_ret
  exact ⟨_, rfl, hr, ((Below.refl _ _).alloc (Nat.le_refl _) _).trans (hb.mono (by simp))⟩

theorem strip_full : ∀ l : List Nat, (strip l).length = l.length → strip l = l
  | [], _ => rfl
  | x :: l, h => by
    unfold strip at h ⊢
    split at h
    · simp at h
    · rename_i hc
      rw [if_neg hc, strip_full l (by simpa using h)]

theorem full_digs {B : Nat} (hB : 2 ≤ B) {X : List Nat} (hd : Dig B X) (hlow : X.length = 0 ∨ B ^ (X.length - 1) ≤ val B X) : X = digs B (val B X) := by
  have e := strip_eq hB hd
  have h1 := strip_length_le X
  rw [← e]
  refine (strip_full X ?_).symm
  rcases hlow with h | h
  · omega
  · have : ¬ (digs B (val B X)).length ≤ X.length - 1 := by rw [digs_length_le hB]; omega
    rw [← e] at this; omega

theorem digs_low {B : Nat} (hB : 2 ≤ B) (n k : Nat) (h : k < (digs B n).length) : B ^ k ≤ n := by
  have : ¬ (digs B n).length ≤ k := by omega
  rw [digs_length_le hB] at this; omega

set_option maxHeartbeats 400000 in
theorem refbits_any {w : World} {v : Value} {n : Nat} (h : RdD w v (digs DD n)) (hl : (digs DD n).length ≤ 1000000) :
    Calls Tryd.prog 10 #[v] w (fun e w' => e = .returned (.int .i64 (bitN n : Nat)) ∧ w' = w) := by
  have hdig := dig_digs DD_two n
  by_cases hn : n = 0
  · subst hn
    rw [digs_zero] at h
    obtain ⟨a, c, rfl, h2, h3, h4, hc⟩ := h.view
    go_enter Tryd.func10, Tryd.ntmps10
    go_wp2
    go_ret
    exact ⟨rfl, rfl⟩
  · have hne : digs DD n ≠ [] := fun h => hn ((digs_nil_iff DD_two n).1 h)
    have htop := strip_top (l := digs DD n) (by rw [strip_digs DD_two]; exact hne)
    rw [strip_digs DD_two] at htop
    have hb := bits_list (p := 16) (by rw [← DD_pow]; exact hdig) hne htop
    rw [← DD_pow, val_digs DD_two] at hb
    generalize digs DD n = l at *
    obtain ⟨a, c, rfl, h2, h3, h4, hc⟩ := h.view
    have hp := List.length_pos_iff.2 hne
    obtain ⟨g, of, rfl, hg, hcell⟩ := hc (l.length - 1) (by omega)
    rw [← List.getD_eq_getElem?_getD] at hcell
    have hx := hdig.getD DD_pos (l.length - 1)
    have d0 := len_ne hne
    generalize l.getD (l.length - 1) 0 = x at hcell hx hb
    rw [hb]
    obtain ⟨t, ht⟩ : ∃ t, 16 * (l.length - 1) + bitN x = t := ⟨_, rfl⟩
    rw [ht]
    clear hb htop hdig h hc
    unfold DD at hx
    have hx16 : bitN x ≤ 16 := bitN_le.2 (by omega)
    go_enter Tryd.func10, Tryd.ntmps10
    go_wp2
    go_loop [3, 4] (fun p x' => ∃ (q y : Nat), p = .int .i64 q ∧ x' = D32 y ∧ y ≤ x ∧ q + bitN y = t) (fun _ x' => (intOf x').toNat)
    case atStart => exact ⟨16 * (l.length - 1), x, by go_num, rfl, Nat.le_refl _, ht⟩
    case round =>
      obtain ⟨q, y, rfl, rfl, hy, hq⟩ := hrel
      by_cases hy0 : y = 0
      · subst hy0
        go_wp2
        go_ret
        rw [bitN_zero] at hq
        exact ⟨by rw [← hq]; rfl, rfl⟩
      · have e := bitN_half hy0
        have H := Lib.hid hq
        go_wp2
        go_round
        case rel => exact ⟨q + 1, y / 2, by go_num, by simp, by omega, by omega⟩
        case measure => simp [intOf]; omega

set_option maxHeartbeats 400000 in
theorem same_any {w : World} {v u : Value} {l m : List Nat} (h : RdN w v l) (k : RdN w u m) :
    Calls Tryd.prog 22 #[v, u] w (fun e w' => e = .returned (.bool (decide (l = m))) ∧ Below w.heap.size w w') := by
  obtain ⟨a, c, rfl, h2, h3, h4, hc⟩ := h.view
  obtain ⟨a', c', rfl, h2', h3', h4', hc'⟩ := k.view
  have HC := Lib.hid hc; have HC' := Lib.hid hc'
  clear hc hc' h k
  by_cases hlen : l.length = m.length
  · rw [hlen] at h2 HC ⊢
    go_enter Tryd.func22, Tryd.ntmps22
    go_wp2
    go_loopw [5] (fun i wr => ∃ (q : Nat), i = .int .i64 q ∧ q ≤ m.length ∧ Below w.heap.size w wr ∧ ∀ j, j < q → l[j]? = m[j]?) (fun i _ => m.length - (intOf i).toNat)
    case atStart => exact ⟨0, rfl, Nat.zero_le _, Below.refl _ _, fun j hj => by omega⟩
    case round =>
      obtain ⟨q, rfl, hq, hB, heq⟩ := hrel
      have HE := Lib.hid heq; clear heq
      by_cases hqm : q < m.length
      · obtain ⟨g, of, rfl, hg, hcell⟩ := HC.out q hqm
        obtain ⟨g', of', rfl, hg', hcell'⟩ := HC'.out q hqm
        rw [← hB.cell (p := ⟨g, of + q, none⟩) hg] at hcell
        rw [← hB.cell (p := ⟨g', of' + q, none⟩) hg'] at hcell'
        have e1 : l[q]? = some (l[q]?.getD 0) := by rw [List.getElem?_eq_getElem (by omega)]; rfl
        have e2 : m[q]? = some (m[q]?.getD 0) := by rw [List.getElem?_eq_getElem (by omega)]; rfl
        generalize l[q]?.getD 0 = x at hcell e1
        generalize m[q]?.getD 0 = y at hcell' e2
        have E1 := Lib.hid e1; have E2 := Lib.hid e2; clear e1 e2
        by_cases hxy : x = y
        · subst hxy
          go_wp2_with (go_quiet (fail))
          go_round
          case rel => exact ⟨q + 1, by go_num, hqm, below_drewN hB nq, fun j hj => by
            by_cases hjq : j = q
            · rw [hjq, E1.out, E2.out]
            · exact HE.out j (by omega)⟩
          case measure => simp [intOf]; omega
        · have dx : ((x : Int) != (y : Int)) = true := by simp; omega
          go_wp2_with (go_quiet (fail))
          go_ret
          have hlm : ¬ l = m := fun hlm => by
            have := E1.out
            rw [hlm, E2.out] at this
            exact hxy (Option.some.inj this).symm
          exact ⟨by rw [decide_eq_false hlm]; rfl, below_drewN hB nq⟩
      · have : l = m := List.ext_getElem? fun j => by
          by_cases hj : j < q
          · exact HE.out j hj
          · rw [List.getElem?_eq_none (by omega), List.getElem?_eq_none (by omega)]
        go_wp2
        go_ret
        exact ⟨by rw [decide_eq_true this]; rfl, hB⟩
  · have hne : l ≠ m := fun h => hlen (by rw [h])
    rw [decide_eq_false hne]
    have dx : ((l.length : Int) != (m.length : Int)) = true := by simp; omega
    go_enter Tryd.func22, Tryd.ntmps22
    go_wp2
    go_ret
    exact ⟨rfl, Below.refl _ _⟩

/-- The loop's relation in the document's Add. -/
structure RAdd (w : World) (l m : List Nat) (S k cy : Nat) (X : List Nat) (v : Value) (wr : World) : Prop where
  toOwn : ToOwn w X v wr
  cy1 : cy ≤ 1
  len : X.length = k
  le : k ≤ max l.length m.length + 1
  last : cy = 0 ∨ k ≤ max l.length m.length
  sum : val DD X + DD ^ k * cy = val DD (l.take k) + val DD (m.take k)
  low : k = 0 ∨ DD ^ (k - 1) ≤ S

theorem RAdd.step {w wr wr' : World} {l m : List Nat} {S k cy : Nat} {X : List Nat} {v v' : Value} (h : RAdd w l m S k cy X v wr) (hdl : Dig DD l) (hdm : Dig DD m) (hS : S = val DD l + val DD m)
    (hl : ∀ k, k < l.length → DD ^ k ≤ val DD l) (hm : ∀ k, k < m.length → DD ^ k ≤ val DD m) (hgo : k < l.length ∨ k < m.length ∨ 0 < cy)
    (ho : wr'.ownsRow w.heap.size 50 1 v' (X.length + 1) (X.map D32 ++ [D32 ((cy + l.getD k 0 + m.getD k 0) % DD)])) (hb : Below w.heap.size w wr') :
    RAdd w l m S (k + 1) ((cy + l.getD k 0 + m.getD k 0) / DD) (X ++ [(cy + l.getD k 0 + m.getD k 0) % DD]) v' wr' := by
  have a1 := hdl.getD DD_pos k
  have a2 := hdm.getD DD_pos k
  have hc := h.cy1
  have hq : (cy + l.getD k 0 + m.getD k 0) / DD ≤ 1 := by
    rw [Nat.div_le_iff_le_mul_add_pred DD_pos]; omega
  have hlen := h.len
  refine ⟨⟨h.toOwn.dig.append (Dig.cons (Nat.mod_lt _ DD_pos) (Dig.nil _)), by rw [List.length_append, List.map_append]; exact ho, hb⟩, hq, by rw [List.length_append, hlen]; rfl, ?_, ?_, ?_, ?_⟩
  · rcases h.last with h0 | h0 <;> omega
  · by_cases hk : k + 1 ≤ max l.length m.length
    · exact .inr hk
    · left
      have e1 : l.getD k 0 = 0 ∨ k < l.length := by
        by_cases hkl : k < l.length
        · exact .inr hkl
        · left; rw [List.getD_eq_getElem?_getD, List.getElem?_eq_none (by omega)]; rfl
      have e2 : m.getD k 0 = 0 ∨ k < m.length := by
        by_cases hkl : k < m.length
        · exact .inr hkl
        · left; rw [List.getD_eq_getElem?_getD, List.getElem?_eq_none (by omega)]; rfl
      have h3 := h.last
      rw [Nat.div_eq_of_lt]
      have : 2 ≤ DD := DD_two
      omega
  · have e := Nat.mod_add_div (cy + l.getD k 0 + m.getD k 0) DD
    have hs := h.sum
    rw [val_append, val_one, hlen, val_take_succ, val_take_succ, Nat.pow_succ, Nat.mul_assoc, Nat.add_assoc, ← Nat.mul_add, e, Nat.mul_add, Nat.mul_add]
    omega
  · right
    rw [Nat.add_sub_cancel, hS]
    rcases hgo with hg | hg | hg
    · have := hl k hg; omega
    · have := hm k hg; omega
    · have hs := h.sum
      obtain rfl : cy = 1 := by omega
      have h1 := val_take_drop DD l (min k l.length) (Nat.min_le_right _ _)
      have h2 := val_take_drop DD m (min k m.length) (Nat.min_le_right _ _)
      have t1 : l.take (min k l.length) = l.take k := by
        by_cases hk : k ≤ l.length
        · rw [Nat.min_eq_left hk]
        · rw [Nat.min_eq_right (by omega), List.take_length, List.take_of_length_le (by omega)]
      have t2 : m.take (min k m.length) = m.take k := by
        by_cases hk : k ≤ m.length
        · rw [Nat.min_eq_left hk]
        · rw [Nat.min_eq_right (by omega), List.take_length, List.take_of_length_le (by omega)]
      rw [t1] at h1; rw [t2] at h2
      omega

theorem RAdd.fin {w wr : World} {l m : List Nat} {S k : Nat} {X : List Nat} {v : Value} (h : RAdd w l m S k 0 X v wr) (hS : S = val DD l + val DD m) (h1 : l.length ≤ k) (h2 : m.length ≤ k) : RdD wr v (digs DD S) := by
  have hs := h.sum
  rw [val_take_ge DD l k h1, val_take_ge DD m k h2, ← hS] at hs
  have hv : val DD X = S := by omega
  have := full_digs DD_two h.toOwn.dig (by rw [h.len, hv]; rcases h.low with h0 | h0; exact .inl h0; exact .inr h0)
  rw [← hv, ← this]
  exact Rd.of_own h.toOwn.own (fun _ _ => trivial)

set_option maxHeartbeats 800000 in
theorem radd_any {w : World} {v u : Value} {A B : Nat} (h : RdD w v (digs DD A)) (k : RdD w u (digs DD B)) (hl : (digs DD A).length ≤ 1000000) (hm : (digs DD B).length ≤ 1000000) :
    Calls Tryd.prog 26 #[v, u] w (OneD w (digs DD (A + B))) := by
  obtain ⟨i0, hi, hz0, hz1, hz2⟩ := info_parts infoD
  have dA := dig_digs DD_two A
  have dB := dig_digs DD_two B
  have lA := digs_low DD_two A
  have lB := digs_low DD_two B
  have hS : A + B = val DD (digs DD A) + val DD (digs DD B) := by rw [val_digs DD_two, val_digs DD_two]
  rw [← val_digs DD_two A, val_digs DD_two] at lA
  have vA := val_digs DD_two A
  have vB := val_digs DD_two B
  generalize digs DD A = l at *
  generalize digs DD B = m at *
  rw [← vA] at lA; rw [← vB] at lB
  generalize A + B = S at *
  clear vA vB
  obtain ⟨a, c, rfl, h2, h3, h4, -⟩ := h.view
  obtain ⟨a', c', rfl, h2', h3', h4', -⟩ := k.view
  have HL := Lib.hid h; have HM := Lib.hid k; clear h k
  have LA := Lib.hid lA; have LB := Lib.hid lB; have HS := Lib.hid hS; clear lA lB hS
  go_enter Tryd.func26, Tryd.ntmps26
  go_wp2
  go_loopw [5, 6, 7] (fun v cy i wr => ∃ (k cy' : Nat) (X : List Nat), i = .int .i64 k ∧ cy = D32 cy' ∧ RAdd w l m S k cy' X v wr) (fun _ _ i _ => max l.length m.length + 1 - (intOf i).toNat)
  case atStart => exact ⟨0, 0, [], rfl, rfl, ⟨Dig.nil _, World.ownsRow_nil _ _ _ _, Below.refl _ _⟩, Nat.zero_le _, rfl, Nat.zero_le _, .inl rfl, rfl, .inl rfl⟩
  case round =>
    obtain ⟨k, cy, X, rfl, rfl, hR⟩ := hrel
    have HR := Lib.hid hR
    have hcy := hR.cy1; have hlen := hR.len; have hle := hR.le; have hlast := hR.last
    have hown := hR.toOwn.own; have hB := hR.toOwn.below
    have hsz := hB.size
    clear hR
    have hx := dA.getD DD_pos k; have hy := dB.getD DD_pos k
    unfold DD at hx hy
    by_cases hkl : k < l.length
    · have HST := Lib.hid (fun v' wr' ho hb => HR.out.step (v' := v') (wr' := wr') dA dB HS.out LA.out LB.out (.inl hkl) ho hb)
      obtain ⟨a1, c1, e1, -, -, -, hcx⟩ := (HL.out.below hB).view
      injection e1 with e1 e2 e3; subst e1 e3
      obtain ⟨g, of, rfl, hg, hcx⟩ := hcx k hkl
      rw [← List.getD_eq_getElem?_getD] at hcx
      clear e2
      by_cases hkm : k < m.length
      · obtain ⟨a2, c2, f1, -, -, -, hcy'⟩ := (HM.out.below hB).view
        injection f1 with f1 f2 f3; subst f1 f3
        obtain ⟨g', of', rfl, hg', hcy'⟩ := hcy' k hkm
        rw [← List.getD_eq_getElem?_getD] at hcy'
        clear f2
        generalize l.getD k 0 = x at *
        generalize m.getD k 0 = y at *
        go_wp2_with (at_builtin; go_loud (refine wpList_append_own _ rfl _ _ 27 rfl w.heap.size 50 i0 (.int .u32 0) 1 4 Tryd.underlying27 hi hz0 hz1 hz2 rfl (by decide) _ _ _ rfl (hown.alloc _) ⟨wr.heap.size, 0, none⟩ 1 1 [.int .u32 (((cy : Int) + (x : Int) + (y : Int)) % 65536)] rfl rfl (cell_one_new _ _ _) (by simp [Value.oneCell']) ?_ ?_ ?_ ?_; (focus (unfold maxLen; omega)); (focus omega); (focus (simp; omega)); intro v2 w2 hown2 hg2 _; have HN := Lib.hid (HST.out v2 w2 (by simpa [D32, DD] using hown2) ((hB.alloc hB.size _).grown hg2 (by simp; omega) (fun k hk => (hown.lt k hk).1))); clear hown2 hg2))
        go_round
        case rel => exact ⟨k + 1, (cy + x + y) / DD, _, by go_num, by simp [DD, D32], HN.out⟩
        case measure => simp [intOf]; omega
      · have z : m.getD k 0 = 0 := by rw [List.getD_eq_getElem?_getD, List.getElem?_eq_none (by omega)]; rfl
        rw [z] at HST
        clear hy z
        generalize l.getD k 0 = x at *
        go_wp2_with (at_builtin; go_loud (refine wpList_append_own _ rfl _ _ 27 rfl w.heap.size 50 i0 (.int .u32 0) 1 4 Tryd.underlying27 hi hz0 hz1 hz2 rfl (by decide) _ _ _ rfl (hown.alloc _) ⟨wr.heap.size, 0, none⟩ 1 1 [.int .u32 (((cy : Int) + (x : Int)) % 65536)] rfl rfl (cell_one_new _ _ _) (by simp [Value.oneCell']) ?_ ?_ ?_ ?_; (focus (unfold maxLen; omega)); (focus omega); (focus (simp; omega)); intro v2 w2 hown2 hg2 _; have HN := Lib.hid (HST.out v2 w2 (by simpa [D32, DD] using hown2) ((hB.alloc hB.size _).grown hg2 (by simp; omega) (fun k hk => (hown.lt k hk).1))); clear hown2 hg2))
        go_round
        case rel => exact ⟨k + 1, (cy + x) / DD, _, by go_num, by simp [DD, D32], HN.out⟩
        case measure => simp [intOf]; omega
    · have zl : l.getD k 0 = 0 := by rw [List.getD_eq_getElem?_getD, List.getElem?_eq_none (by omega)]; rfl
      rw [zl] at hx
      by_cases hkm : k < m.length
      · have HST := Lib.hid (fun v' wr' ho hb => HR.out.step (v' := v') (wr' := wr') dA dB HS.out LA.out LB.out (.inr (.inl hkm)) ho hb)
        obtain ⟨a2, c2, f1, -, -, -, hcy'⟩ := (HM.out.below hB).view
        injection f1 with f1 f2 f3; subst f1 f3
        obtain ⟨g', of', rfl, hg', hcy'⟩ := hcy' k hkm
        rw [← List.getD_eq_getElem?_getD] at hcy'
        clear f2
        rw [zl] at HST
        clear hx zl
        generalize m.getD k 0 = y at *
        go_wp2_with (at_builtin; go_loud (refine wpList_append_own _ rfl _ _ 27 rfl w.heap.size 50 i0 (.int .u32 0) 1 4 Tryd.underlying27 hi hz0 hz1 hz2 rfl (by decide) _ _ _ rfl (hown.alloc _) ⟨wr.heap.size, 0, none⟩ 1 1 [.int .u32 (((cy : Int) + (y : Int)) % 65536)] rfl rfl (cell_one_new _ _ _) (by simp [Value.oneCell']) ?_ ?_ ?_ ?_; (focus (unfold maxLen; omega)); (focus omega); (focus (simp; omega)); intro v2 w2 hown2 hg2 _; have HN := Lib.hid (HST.out v2 w2 (by simpa [D32, DD] using hown2) ((hB.alloc hB.size _).grown hg2 (by simp; omega) (fun k hk => (hown.lt k hk).1))); clear hown2 hg2))
        go_round
        case rel => exact ⟨k + 1, (cy + 0 + y) / DD, _, by go_num, by simp [DD, D32], HN.out⟩
        case measure => simp [intOf]; omega
      · by_cases hc0 : cy = 0
        · subst hc0
          have RX := HR.out.fin HS.out (by omega) (by omega)
          go_wp2
          go_ret
          exact ⟨_, rfl, RX, hB⟩
        · have HST := Lib.hid (fun v' wr' ho hb => HR.out.step (v' := v') (wr' := wr') dA dB HS.out LA.out LB.out (.inr (.inr (by omega))) ho hb)
          have z : m.getD k 0 = 0 := by rw [List.getD_eq_getElem?_getD, List.getElem?_eq_none (by omega)]; rfl
          rw [zl, z] at HST
          clear hx zl hy z
          go_wp2_with (at_builtin; go_loud (refine wpList_append_own _ rfl _ _ 27 rfl w.heap.size 50 i0 (.int .u32 0) 1 4 Tryd.underlying27 hi hz0 hz1 hz2 rfl (by decide) _ _ _ rfl (hown.alloc _) ⟨wr.heap.size, 0, none⟩ 1 1 [.int .u32 (((cy : Int)) % 65536)] rfl rfl (cell_one_new _ _ _) (by simp [Value.oneCell']) ?_ ?_ ?_ ?_; (focus (unfold maxLen; omega)); (focus omega); (focus (simp; omega)); intro v2 w2 hown2 hg2 _; have HN := Lib.hid (HST.out v2 w2 (by simpa [D32, DD] using hown2) ((hB.alloc hB.size _).grown hg2 (by simp; omega) (fun k hk => (hown.lt k hk).1))); clear hown2 hg2))
          go_round
          case rel => exact ⟨k + 1, (cy + 0 + 0) / DD, _, by go_num, by simp [DD, D32], HN.out⟩
          case measure => simp [intOf]; omega
end Go.Proofs.YtnoelffaccekjaaDoor
