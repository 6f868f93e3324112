/- The document's Norm, To, Bit, Bits, Double, Shr and Of, also of long lists of limbs (to 1100000). Conditions: the digits are digits. (Printed by wip/gen/gen_refbig.py.) -/
import Derived.Test.YthmaoohjhnpamaaGreatDoorRefC
import Derived.Deep.RegionHeldLaw
namespace Go.Proofs.YthmaoohjhnpamaaGreatDoor
set_option maxRecDepth 100000
open Go.RowKit Go.ChangeShapes Go.WideShapes
set_option linter.unusedVariables false

set_option maxHeartbeats 400000 in
theorem norm_big {w : World} {v : Value} {l : List Nat} (h : RdD w v l) (hl : l.length ≤ 5000000) :
    Calls Tryz.prog 90 #[v] w (OneD w (strip l)) := by
  obtain ⟨i0, hi, hz0, hz1, hz2⟩ := info_parts infoD
  obtain ⟨a, c, rfl, h2, h3, h4, hc⟩ := h.view
  have H := Lib.hid h; have HC := Lib.hid hc; clear h hc
  go_enter Tryz.func90, Tryz.ntmps90
  go_wp2
  go_loop [3] (fun n => ∃ k : Nat, n = .int .i64 k ∧ BareRel l k) (fun n => (intOf n).toNat)
  case atStart => exact ⟨l.length, rfl, Nat.le_refl _, fun j hj => by simp [List.getElem?_eq_none hj]⟩
  case round =>
    obtain ⟨k, rfl, hk, hz⟩ := hrel
    have HZ := Lib.hid hz
    have FIN := Lib.hid (bare_fin hk hz); clear hz
    have hKL : (l.take k).length = k := by rw [List.length_take]; omega
    have RT := Lib.hid (rdD_take H.out hk)
    by_cases hk0 : k = 0
    · have E := FIN.out (.inl hk0)
      subst hk0
      have d0 : decide ((0 : Int) < ((0 : Nat) : Int)) = false := by simp
      go_wp2_with (at_builtin; refine wpList_append_rd (N := fun _ => True) (xs := []) (ys := (l.take 0).map D32) (n := 0) rfl (.tmp 18) (.tmp 21) 26 rfl w.heap.size 84 i0 (.int .u32 0) 4 Tryz.underlying26 hi hz0 hz1 hz2 rfl rfl rfl (own_zero (heap_alloc_new _ _) (Nat.le_refl _)) (RT.out.keep (S := fun _ => False) ((Fr.refl _ _).alloc _) (fun _ _ h => h)) (one32 _) (by rw [List.length_map, hKL]; unfold maxLen; omega) (by rw [List.length_map, hKL]; omega) (by simp) ?_; intro v1 w1 own1 hg1)
      go_ret
      exact ⟨_, rfl, by rw [← E]; exact Rd.of_own own1 (fun _ _ => trivial), ((Below.refl _ _).alloc (Nat.le_refl _) _).grown hg1 (by simp) (fun k hk => by simp [Value.ownBlock, Act.eval] at hk; omega)⟩
    · have d0 : decide ((0 : Int) < (k : Int)) = true := decide_eq_true (by omega)
      obtain ⟨g, off, rfl, hg, hcell⟩ := HC.out (k - 1) (by omega)
      have hcell' : w.cell? ⟨g, off + (k - 1), none⟩ = some (D32 (l.getD (k - 1) 0)) := by rw [hcell, List.getD_eq_getElem?_getD]
      clear hcell
      generalize hx : l.getD (k - 1) 0 = x at hcell'
      have HX := Lib.hid hx; clear hx
      by_cases hx0 : x = 0
      · subst hx0
        go_wp2_with fail
        go_round
        case rel => exact ⟨k - 1, by go_num, by omega, fun j hj => by
          by_cases hjk : j = k - 1
          · rw [hjk]; exact HX.out
          · exact HZ.out j (by omega)⟩
        case measure => simp [intOf]; omega
      · have dx : ((x : Int) == 0) = false := by simp; omega
        go_wp2_with (at_builtin; refine wpList_append_rd (N := fun _ => True) (xs := []) (ys := (l.take k).map D32) (n := 0) rfl (.tmp 18) (.tmp 21) 26 rfl w.heap.size 84 i0 (.int .u32 0) 4 Tryz.underlying26 hi hz0 hz1 hz2 rfl rfl rfl (own_zero (heap_alloc_new _ _) (Nat.le_refl _)) (RT.out.keep (S := fun _ => False) ((Fr.refl _ _).alloc _) (fun _ _ h => h)) (one32 _) (by rw [List.length_map, hKL]; unfold maxLen; omega) (by rw [List.length_map, hKL]; omega) (by simp) ?_; intro v1 w1 own1 hg1)
        go_ret
        exact ⟨_, rfl, by rw [← FIN.out (.inr (by rw [HX.out]; exact hx0))]; exact Rd.of_own own1 (fun _ _ => trivial), ((Below.refl _ _).alloc (Nat.le_refl _) _).grown hg1 (by simp) (fun k hk => by simp [Value.ownBlock, Act.eval] at hk; omega)⟩

set_option maxHeartbeats 400000 in
theorem to_big {w : World} {v : Value} {l : List Nat} (h : RdN w v l) (hd : Dig BB l) (hl : l.length ≤ 1100000) :
    Calls Tryz.prog 53 #[v] w (OneD w (digs DD (val BB l))) := by
  obtain ⟨i0, hi, hz0, hz1, hz2⟩ := info_parts infoD
  obtain ⟨a, c, rfl, h2, h3, h4, hc⟩ := h.view
  have H := Lib.hid h; clear h hc
  go_enter Tryz.func53, Tryz.ntmps53
  go_wp2
  go_loopw [3, 4] (fun v i wr => ∃ (k : Nat) (X : List Nat), i = .int .i64 k ∧ ToOut w l k X v wr) (fun _ i _ => l.length - (intOf i).toNat)
  case atStart => exact ⟨0, [], rfl, ⟨Dig.nil _, World.ownsRow_nil _ _ _ _, Below.refl _ _⟩, Nat.zero_le _, rfl, rfl⟩
  case round =>
    obtain ⟨k, X, rfl, hO⟩ := hrel
    have HO := Lib.hid hO
    have hk := hO.le
    by_cases hkn : k < l.length
    · have HI := Lib.hid (hO.start hd)
      obtain ⟨a', c', e1, -, -, -, hcell⟩ := (H.out.below hO.below).view
      injection e1 with e1 e2 e3; subst e1 e3
      obtain ⟨g, of, rfl, hg, hcell⟩ := hcell k hkn
      rw [← List.getD_eq_getElem?_getD] at hcell
      generalize l.getD k 0 = x at hcell HI
      clear hO e2
      go_wp2
      go_loopw [3, 5, 6] (fun v x i wr => ∃ (j x' : Nat) (X : List Nat), i = .int .i64 j ∧ x = L64 x' ∧ ToIn w l k j x' X v wr) (fun _ _ i _ => 4 - (intOf i).toNat)
      case atStart => exact ⟨0, x, X, rfl, rfl, HI.out⟩
      case round =>
        clear HO HI
        obtain ⟨j, y, X, rfl, rfl, hI⟩ := hrel
        have HI := Lib.hid hI
        have hj := hI.le
        by_cases hj4 : j < 4
        · have hown := hI.own
          have hXl := hI.len
          clear hI
          have hB := HI.out.below
          have hsz := hB.size
          have hy : y < 18446744073709551616 := HI.out.bound
          go_wp2_with (at_builtin; go_loud (refine wpList_append_own _ rfl _ _ 26 rfl w.heap.size 84 i0 (.int .u32 0) 1 4 Tryz.underlying26 hi hz0 hz1 hz2 rfl (by decide) _ _ _ rfl (hown.alloc _) ⟨wr.heap.size, 0, none⟩ 1 1 [.int .u32 ((y : Int) % 65536)] rfl rfl (cell_one_new _ _ _) (by simp [Value.oneCell']) ?_ ?_ ?_ ?_; (focus (unfold maxLen; omega)); (focus omega); (focus (simp; omega)); intro v2 w2 hown2 hg2 _; have HR := Lib.hid (HI.out.step hj4 (by rw [D32, DD, Int.natCast_emod]; exact hown2) ((hB.alloc hB.size _).grown hg2 (by simp; omega) (fun k hk => (hown.lt k hk).1))); clear hown2 hg2))
          go_round
          case rel => exact ⟨j + 1, y / DD, _, by go_num, by simp [DD, L64], HR.out⟩
          case measure => simp [intOf]; omega
        · obtain rfl : j = 4 := by omega
          have HF := Lib.hid (hI.fin hkn)
          clear hI
          go_wp2
          go_round
          case rel => exact ⟨k + 1, X, by go_num, HF.out⟩
          case measure => simp [intOf]; omega
    · have hkl : k = l.length := by omega
      have E : strip X = digs DD (val BB l) := by rw [strip_eq DD_two hO.dig, hO.sum, hkl, List.take_length]
      have RX : RdD _ _ X := Rd.of_own hO.own (fun _ _ => trivial)
      have hB := hO.below
      have hX := hO.len
      clear hO
      go_wp2_with (go_at_call 90; (with_reducible refine (norm_big RX ?_).mono ?_); (focus omega); rintro e w3 ⟨v3, rfl, hr, hb3⟩)
      go_ret
      rw [E] at hr
      exact ⟨_, rfl, hr, hB.trans (hb3.mono hB.size)⟩

set_option maxHeartbeats 400000 in
theorem refbits_big {w : World} {v : Value} {n : Nat} (h : RdD w v (digs DD n)) (hl : (digs DD n).length ≤ 5000000) :
    Calls Tryz.prog 25 #[v] w (fun e w' => e = .returned (.int .i64 (bitN n : Nat)) ∧ w' = w) := by
  have hdig := dig_digs DD_two n
  by_cases hn : n = 0
  · subst hn
    rw [digs_zero] at h
    obtain ⟨a, c, rfl, h2, h3, h4, hc⟩ := h.view
    go_enter Tryz.func25, Tryz.ntmps25
    go_wp2
    go_ret
    exact ⟨rfl, rfl⟩
  · have hne : digs DD n ≠ [] := fun h => hn ((digs_nil_iff DD_two n).1 h)
    have htop := strip_top (l := digs DD n) (by rw [strip_digs DD_two]; exact hne)
    rw [strip_digs DD_two] at htop
    have hb := bits_list (p := 16) (by rw [← DD_pow]; exact hdig) hne htop
    rw [← DD_pow, val_digs DD_two] at hb
    generalize digs DD n = l at *
    obtain ⟨a, c, rfl, h2, h3, h4, hc⟩ := h.view
    have hp := List.length_pos_iff.2 hne
    obtain ⟨g, of, rfl, hg, hcell⟩ := hc (l.length - 1) (by omega)
    rw [← List.getD_eq_getElem?_getD] at hcell
    have hx := hdig.getD DD_pos (l.length - 1)
    have d0 := len_ne hne
    generalize l.getD (l.length - 1) 0 = x at hcell hx hb
    rw [hb]
    obtain ⟨t, ht⟩ : ∃ t, 16 * (l.length - 1) + bitN x = t := ⟨_, rfl⟩
    rw [ht]
    clear hb htop hdig h hc
    unfold DD at hx
    have hx16 : bitN x ≤ 16 := bitN_le.2 (by omega)
    go_enter Tryz.func25, Tryz.ntmps25
    go_wp2
    go_loop [3, 4] (fun p x' => ∃ (q y : Nat), p = .int .i64 q ∧ x' = D32 y ∧ y ≤ x ∧ q + bitN y = t) (fun _ x' => (intOf x').toNat)
    case atStart => exact ⟨16 * (l.length - 1), x, by go_num, rfl, Nat.le_refl _, ht⟩
    case round =>
      obtain ⟨q, y, rfl, rfl, hy, hq⟩ := hrel
      by_cases hy0 : y = 0
      · subst hy0
        go_wp2
        go_ret
        rw [bitN_zero] at hq
        exact ⟨by rw [← hq]; rfl, rfl⟩
      · have e := bitN_half hy0
        have H := Lib.hid hq
        go_wp2
        go_round
        case rel => exact ⟨q + 1, y / 2, by go_num, by simp, by omega, by omega⟩
        case measure => simp [intOf]; omega

set_option maxHeartbeats 800000 in
theorem rdouble_big {w : World} {v : Value} {A more : Nat} (h : RdD w v (digs DD A)) (hl : (digs DD A).length ≤ 5000000) (hm : more ≤ 1) :
    Calls Tryz.prog 71 #[v, D32 more] w (OneD w (digs DD (2 * A + more))) := by
  obtain ⟨i0, hi, hz0, hz1, hz2⟩ := info_parts infoD
  have dA := dig_digs DD_two A
  have lA := digs_low DD_two A
  have hS : 2 * A + more = 2 * val DD (digs DD A) + more := by rw [val_digs DD_two]
  have vA := val_digs DD_two A
  generalize digs DD A = l at *
  rw [← vA] at lA
  generalize 2 * A + more = S at *
  clear vA
  obtain ⟨a, c, rfl, h2, h3, h4, -⟩ := h.view
  have HL := Lib.hid h; clear h
  have LA := Lib.hid lA; have HS := Lib.hid hS; clear lA hS
  go_enter Tryz.func71, Tryz.ntmps71
  go_wp2
  go_loopw [5, 6, 7] (fun v cy i wr => ∃ (k cy' : Nat) (X : List Nat), i = .int .i64 k ∧ cy = D32 cy' ∧ RDbl w l more S k cy' X v wr) (fun _ _ i _ => l.length + 1 - (intOf i).toNat)
  case atStart => exact ⟨0, more, [], rfl, rfl, ⟨Dig.nil _, World.ownsRow_nil _ _ _ _, Below.refl _ _⟩, hm, rfl, Nat.zero_le _, .inr (Nat.zero_le _), by simp, .inl rfl⟩
  case round =>
    obtain ⟨k, cy, X, rfl, rfl, hR⟩ := hrel
    have HR := Lib.hid hR
    have hcy := hR.cy1; have hlen := hR.len; have hle := hR.le; have hlast := hR.last
    have hown := hR.toOwn.own; have hB := hR.toOwn.below
    have hsz := hB.size
    clear hR
    have hx := dA.getD DD_pos k
    unfold DD at hx
    by_cases hkl : k < l.length
    · have HST := Lib.hid (fun v' wr' ho hb => HR.out.step (v' := v') (wr' := wr') dA HS.out LA.out (.inl hkl) ho hb)
      obtain ⟨a1, c1, e1, -, -, -, hcx⟩ := (HL.out.below hB).view
      injection e1 with e1 e2 e3; subst e1 e3
      obtain ⟨g, of, rfl, hg, hcx⟩ := hcx k hkl
      rw [← List.getD_eq_getElem?_getD] at hcx
      clear e2
      generalize l.getD k 0 = x at *
      go_wp2_with (at_builtin; go_loud (refine wpList_append_own _ rfl _ _ 26 rfl w.heap.size 84 i0 (.int .u32 0) 1 4 Tryz.underlying26 hi hz0 hz1 hz2 rfl (by decide) _ _ _ rfl (hown.alloc _) ⟨wr.heap.size, 0, none⟩ 1 1 [.int .u32 (((cy : Int) + 2 * (x : Int)) % 65536)] rfl rfl (cell_one_new _ _ _) (by simp [Value.oneCell']) ?_ ?_ ?_ ?_; (focus (unfold maxLen; omega)); (focus omega); (focus (simp; omega)); intro v2 w2 hown2 hg2 _; have HN := Lib.hid (HST.out v2 w2 (by simpa [D32, DD] using hown2) ((hB.alloc hB.size _).grown hg2 (by simp; omega) (fun k hk => (hown.lt k hk).1))); clear hown2 hg2))
      go_round
      case rel => exact ⟨k + 1, (cy + 2 * x) / DD, _, by go_num, by simp [DD, D32], HN.out⟩
      case measure => simp [intOf]; omega
    · have zl : l.getD k 0 = 0 := by rw [List.getD_eq_getElem?_getD, List.getElem?_eq_none (by omega)]; rfl
      by_cases hc0 : cy = 0
      · subst hc0
        have RX := HR.out.fin HS.out (by omega)
        go_wp2
        go_ret
        exact ⟨_, rfl, RX, hB⟩
      · have HST := Lib.hid (fun v' wr' ho hb => HR.out.step (v' := v') (wr' := wr') dA HS.out LA.out (.inr (by omega)) ho hb)
        rw [zl] at HST
        clear hx zl
        go_wp2_with (at_builtin; go_loud (refine wpList_append_own _ rfl _ _ 26 rfl w.heap.size 84 i0 (.int .u32 0) 1 4 Tryz.underlying26 hi hz0 hz1 hz2 rfl (by decide) _ _ _ rfl (hown.alloc _) ⟨wr.heap.size, 0, none⟩ 1 1 [.int .u32 (((cy : Int)) % 65536)] rfl rfl (cell_one_new _ _ _) (by simp [Value.oneCell']) ?_ ?_ ?_ ?_; (focus (unfold maxLen; omega)); (focus omega); (focus (simp; omega)); intro v2 w2 hown2 hg2 _; have HN := Lib.hid (HST.out v2 w2 (by simpa [D32, DD] using hown2) ((hB.alloc hB.size _).grown hg2 (by simp; omega) (fun k hk => (hown.lt k hk).1))); clear hown2 hg2))
        go_round
        case rel => exact ⟨k + 1, (cy + 2 * 0) / DD, _, by go_num, by simp [DD, D32], HN.out⟩
        case measure => simp [intOf]; omega

set_option maxHeartbeats 800000 in
theorem rbit_big {w : World} {v : Value} {A i : Nat} (h : RdD w v (digs DD A)) (hl : (digs DD A).length ≤ 5000000) (hi : i ≤ 100000000) :
    Calls Tryz.prog 54 #[v, .int .i64 i] w (fun e w' => e = .returned (D32 (A / 2 ^ i % 2)) ∧ w' = w) := by
  have hdb := digit_bit (dig_digs DD_two A) i
  rw [val_digs DD_two] at hdb
  have dA := dig_digs DD_two A
  generalize digs DD A = l at *
  rw [hdb]
  clear hdb
  obtain ⟨q, hq⟩ : ∃ q, i / 16 = q := ⟨_, rfl⟩
  obtain ⟨r, hr⟩ : ∃ r, i % 16 = r := ⟨_, rfl⟩
  have hqI : (i : Int) / 16 = (q : Int) := by omega
  have hrI : (i : Int) % 16 = (r : Int) := by omega
  have hqI2 : (i : Int).tdiv 16 = (q : Int) := by rw [Int.tdiv_eq_ediv_of_nonneg (by omega)]; exact hqI
  have hrI2 : (i : Int).tmod 16 = (r : Int) := by rw [Int.tmod_eq_emod_of_nonneg (by omega)]; exact hrI
  have hr16 : r < 16 := by omega
  rw [hq, hr]
  obtain ⟨a, c, rfl, h2, h3, h4, hc⟩ := h.view
  clear h hq hr
  by_cases hql : q < l.length
  · obtain ⟨g, of, rfl, hg, hcell⟩ := hc q hql
    rw [← List.getD_eq_getElem?_getD] at hcell
    have hx := dA.getD DD_pos q
    unfold DD at hx
    clear hc
    generalize l.getD q 0 = x at *
    go_enter Tryz.func54, Tryz.ntmps54
    go_wp2
    go_loop [5, 6] (fun x' k => ∃ j y : Nat, k = .int .i64 j ∧ x' = D32 y ∧ y ≤ x ∧ j ≤ r ∧ y = x / 2 ^ j) (fun _ k => r - (intOf k).toNat)
    case atStart => exact ⟨0, x, rfl, rfl, Nat.le_refl _, Nat.zero_le _, by simp⟩
    case round =>
      obtain ⟨j, y, rfl, rfl, hy, hj, hyj⟩ := hrel
      have HY := Lib.hid hyj
      clear hyj
      by_cases hjr : j < r
      · go_wp2
        go_round
        case rel => exact ⟨j + 1, y / 2, by go_num, by simp, by omega, by omega, by rw [HY.out, Nat.pow_succ, Nat.div_div_eq_div_mul]⟩
        case measure => simp [intOf]; omega
      · have hjr2 : j = r := by omega
        have HJ := Lib.hid hjr2
        go_wp2
        go_ret
        exact ⟨by rw [← HJ.out, ← HY.out]; simp, rfl⟩
  · have z : l.getD q 0 = 0 := by rw [List.getD_eq_getElem?_getD, List.getElem?_eq_none (by omega)]; rfl
    rw [z, Nat.zero_div]
    clear hc
    go_enter Tryz.func54, Tryz.ntmps54
    go_wp2
    go_ret
    exact ⟨rfl, rfl⟩

theorem digsD16 {A s k : Nat} (h : bitN A ≤ s) (hk : s ≤ 16 * k) {m : Nat} (hm : k ≤ m := by omega) : (digs DD A).length ≤ m := by
  refine Nat.le_trans ((digs_length_le DD_two A k).2 ?_) hm
  rw [DD_pow, ← Nat.pow_mul]
  exact Nat.lt_of_lt_of_le (bitN_lt A) (Nat.pow_le_pow_right (by decide) (by omega))
theorem rbits_big {w : World} {v : Value} {A b : Nat} (h : RdD w v (digs DD A)) (e : bitN A = b) (sA : bitN A ≤ 70400000) :
    Calls Tryz.prog 25 #[v] w (fun e w' => e = .returned (.int .i64 (b : Int)) ∧ w' = w) := by
  subst e
  exact refbits_big h (digsD16 (k := 4400000) sA (by omega))

set_option maxHeartbeats 800000 in
theorem rshr_big {w : World} {v : Value} {A n : Nat} (h : RdD w v (digs DD A)) (sA : bitN A ≤ 70400000) (hn : n ≤ 9223372036854775807) :
    Calls Tryz.prog 31 #[v, .int .i64 n] w (RShr w A n) := by
  obtain ⟨b, hb⟩ : ∃ b, bitN A = b := ⟨_, rfl⟩
  have eb := Lib.hid hb
  have hlt : A < 2 ^ b := by rw [← hb]; exact bitN_lt A
  have hnd : decide ((n : Int) < 0) = false := decide_eq_false (by omega)
  have hbs : b ≤ 70400000 := by omega
  have HLT := Lib.hid hlt
  have hlA : (digs DD A).length ≤ 5000000 := digsD16 (k := 4400000) sA (by omega)
  have RA := Lib.hid h
  clear hb hlt
  go_enter Tryz.func31, Tryz.ntmps31
  go_wp2_with (go_at_call 25; (with_reducible refine (rbits_big h eb.out sA).mono ?_); rintro e w1 ⟨rfl, rfl⟩)
  go_loopw [7, 8] (fun o i wr => ∃ j : Nat, i = .int .i64 ((j : Int) - 1) ∧ j ≤ b ∧ (n ≤ j ∨ j = b) ∧ RdD wr o (digs DD (A / 2 ^ j)) ∧ Below w1.heap.size w1 wr) (fun _ i _ => (intOf i + 1).toNat)
  case atStart => exact ⟨b, rfl, Nat.le_refl _, .inr rfl, by rw [Nat.div_eq_of_lt HLT.out, digs_zero]; exact Rd.nil _ _, Below.refl _ _⟩
  case round =>
    obtain ⟨j, rfl, hj, hjn, hO, hB⟩ := hrel
    by_cases hgo : n < j
    · obtain ⟨t, rfl⟩ : ∃ t, j = t + 1 := ⟨j - 1, by omega⟩
      have ht : (((t + 1 : Nat) : Int) - 1) = (t : Int) := by omega
      rw [ht]
      have htd : decide ((n : Int) ≤ (t : Int)) = true := decide_eq_true (by omega)
      have hBt := Lib.hid (rbit_big (i := t) (RA.out.below hB) hlA (by omega))
      have e := shr_bit A t
      have hm : A / 2 ^ t % 2 ≤ 1 := by omega
      have hlq : (digs DD (A / 2 ^ (t + 1))).length ≤ 5000000 := Nat.le_trans (digsD_mono (Nat.div_le_self _ _)) hlA
      have hDo := Lib.hid (rdouble_big (more := A / 2 ^ t % 2) hO hlq hm)
      rw [e] at hDo
      have E := Lib.hid e
      generalize A / 2 ^ t % 2 = bt at *
      clear e
      go_wp2_with (first
        | (go_at_call 54; (with_reducible refine hBt.out.mono ?_); rintro e w2 ⟨rfl, rfl⟩)
        | (go_at_call 71; (with_reducible refine hDo.out.mono ?_); rintro e w3 ⟨v3, rfl, hv3, hb3⟩)
        | fail)
      go_round
      case rel => exact ⟨t, by go_num, by omega, .inl (by omega), hv3, hB.trans (hb3.mono hB.size)⟩
      case measure => simp [intOf]
    · have hd0 : decide ((n : Int) ≤ (j : Int) - 1) = false := decide_eq_false (by omega)
      have hq : A / 2 ^ j = A / 2 ^ n := by
        rcases Nat.lt_or_ge j n with h2 | h2
        · obtain rfl : j = b := by rcases hjn with h3 | h3; · omega
                                   · exact h3
          rw [Nat.div_eq_of_lt HLT.out, Nat.div_eq_of_lt (Nat.lt_of_lt_of_le HLT.out (Nat.pow_le_pow_right (by omega) (by omega)))]
        · rw [show j = n by omega]
      rw [hq] at hO
      have HO := Lib.hid (And.intro hO hB)
      clear hq hjn hO
      go_wp2
      go_loopw [9, 10] (fun r i wr' => ∃ (j : Nat) (ex : Bool), i = .int .i64 j ∧ j ≤ n ∧ j ≤ b ∧ r = .bool ex ∧ Hid (decide (A % 2 ^ j ≠ 0) = ex) ∧ wr' = wr) (fun _ i _ => n - (intOf i).toNat)
      case atStart => exact ⟨0, false, rfl, Nat.zero_le _, Nat.zero_le _, rfl, Lib.hid (by rw [Nat.pow_zero, Nat.mod_one]; rfl), rfl⟩
      case round =>
        obtain ⟨t, ex, rfl, htn, htb, rfl, HEX, rfl⟩ := hrel
        by_cases hgo2 : t < n ∧ t < b
        · have hd1 : decide (t < n) = true := decide_eq_true hgo2.1
          have hd2 : decide (t < b) = true := decide_eq_true hgo2.2
          have hd1' : decide ((t : Int) < (n : Int)) = true := decide_eq_true (by omega)
          have hd2' : decide ((t : Int) < (b : Int)) = true := decide_eq_true (by omega)
          have hBt := Lib.hid (rbit_big (i := t) (RA.out.below HO.out.2) hlA (by omega))
          have hmb := mod_bit A t
          obtain ⟨bt, hbt⟩ : ∃ bt, A / 2 ^ t % 2 = bt := ⟨_, rfl⟩
          rw [hbt] at hBt hmb
          have hbq : ((bt : Int) == 1) = decide (bt = 1) := by
            by_cases h1 : bt = 1
            · rw [h1]; rfl
            · rw [decide_eq_false h1]; exact beq_false_of_ne (by omega)
          rw [HEX.out] at hmb
          have HMB := Lib.hid hmb
          obtain ⟨o1, ho1⟩ : ∃ o, decide (bt = 1) = o := ⟨_, rfl⟩
          rw [ho1] at hbq HMB
          clear hmb hbt ho1
          cases ex
          all_goals
            go_wp2_with (go_at_call 54; (with_reducible refine hBt.out.mono ?_); rintro e w2 ⟨rfl, rfl⟩)
            go_round
            case rel => exact ⟨t + 1, _, by go_num, by omega, by omega, rfl, HMB, by first | rfl | trivial⟩
            case measure => simp [intOf]; omega
        · have hEnd : decide (A % 2 ^ n ≠ 0) = ex := by
            rw [← HEX.out]
            rcases Nat.lt_or_ge t n with h2 | h2
            · obtain rfl : t = b := by omega
              rw [Nat.mod_eq_of_lt HLT.out, Nat.mod_eq_of_lt (Nat.lt_of_lt_of_le HLT.out (Nat.pow_le_pow_right (by omega) (by omega)))]
            · rw [show t = n by omega]
          have HE := Lib.hid hEnd
          by_cases h3 : t < n
          · have hd1 : decide (t < n) = true := decide_eq_true h3
            have hd2 : decide (t < b) = false := decide_eq_false (by omega)
            clear hEnd
            go_wp2
            go_ret2
            exact ⟨_, by rw [HE.out]; rfl, HO.out.1, HO.out.2⟩
          · have hd1 : decide (t < n) = false := decide_eq_false h3
            clear hEnd
            go_wp2
            go_ret2
            exact ⟨_, by rw [HE.out]; rfl, HO.out.1, HO.out.2⟩

/-- A slice of limbs that reads as a number: also a long one. -/
def NumB (w : World) (v : Value) (n : Nat) : Prop := ∃ l, RdN w v l ∧ Dig BB l ∧ l.length ≤ 1100000 ∧ n = val BB l
theorem NumB.below {w w' : World} {v : Value} {n : Nat} (h : NumB w v n) (hb : Below w.heap.size w w') : NumB w' v n := by
  obtain ⟨l, h1, h2⟩ := h
  exact ⟨l, h1.below hb, h2⟩
theorem NumB.slice {w : World} {v : Value} {n : Nat} (h : NumB w v n) : ∃ a, ∃ m k : Nat, v = .slice a m k := by
  obtain ⟨l, h1, -⟩ := h
  obtain ⟨a, k, h2, -⟩ := h1.view
  exact ⟨a, _, k, h2⟩
theorem to_nb {w : World} {v : Value} {A : Nat} (h : NumB w v A) : Calls Tryz.prog 53 #[v] w (OneD w (digs DD A)) := by
  obtain ⟨l, h1, h2, h3, rfl⟩ := h
  exact to_big h1 h2 h3
theorem val_bitsB {l : List Nat} {k : Nat} (h : Dig BB l) (hk : 64 * l.length ≤ k) : bitN (val BB l) ≤ k := by
  refine bitN_le.2 (Nat.lt_of_lt_of_le (val_lt h) ?_)
  rw [show BB = 2 ^ 64 by decide, ← Nat.pow_mul]
  exact Nat.pow_le_pow_right (by decide) hk
theorem NumB.bits {w : World} {v : Value} {A : Nat} (h : NumB w v A) : bitN A ≤ 70400000 := by
  obtain ⟨l, h1, h2, h3, rfl⟩ := h
  exact val_bitsB h2 (by omega)

set_option maxHeartbeats 1000000 in
theorem ROf_big {w : World} {v : Value} {neg n' : Bool} {M M' : Nat} {E E' : Int} (h : NumB w v M) (sM : bitN M ≤ 70400000) (h1 : -9223372036854775808 ≤ E) (h2 : E ≤ 9223372036854775807) (e : bareD ⟨neg, M, E⟩ = ⟨n', M', E'⟩) :
    Calls Tryz.prog 18 #[.agg #[.bool neg, v, .int .i64 E]] w (fun e w' => ∃ u, e = .returned (.agg #[.bool n', u, .int .i64 E']) ∧ RdD w' u (digs DD M') ∧ Below w.heap.size w w') := by
  obtain ⟨a, n, k, rfl⟩ := h.slice
  by_cases h0 : M = 0
  · subst h0
    rw [bareD_zero rfl] at e
    injection e with e1 e2 e3
    subst e1 e2 e3
    have ht := Lib.hid (fun w v (h : NumB w v 0) => (show Calls Tryz.prog 53 #[v] w (OneD w []) from to_nb h))
    go_enter Tryz.func18, Tryz.ntmps18
    go_wp2_with
    (first
      | (go_at_call 53; (with_reducible refine (ht.out _ _ (h.below below_2)).mono ?_); rintro e w1 ⟨vd1, rfl, d1, hb1⟩; have B1 := below_2.trans (hb1.mono below_2.size); have m1 := ((h.below below_2)).below hb1; have P1 := ((blk_a1)).below hb1; have R1 := ((blk_a2)).below hb1; obtain ⟨cP0_1, cP1_1, cP2_1, fP0_1, fP1_1, fP2_1, sP_1⟩ := P1.open3; obtain ⟨cR0_1, cR1_1, cR2_1, fR0_1, fR1_1, fR2_1, sR_1⟩ := R1.open3; obtain ⟨ad1, kd1, rfl, -⟩ := d1.view; try simp only [List.length_nil] at d1)
      | fail)
    obtain ⟨q0, q1, q2, -⟩ := (R1.set3 (.bool false) (.slice none 0 0) (.int .i64 0)).open3
    refine bodyPost_ret (v := .agg #[.bool false, .slice none 0 0, .int .i64 0]) ?_ rfl ?_
    · simp [results, Tryz.results18, go_sem, q0, q1, q2]
    · exact ⟨_, rfl, by rw [digs_zero]; exact Rd.nil _ _, below_set3 B1 (by omega) _ _ _⟩
  · have hsn : digs DD M ≠ [] := fun e => h0 ((digs_nil_iff DD_two _).1 e)
    have hsb : (((digs DD M).length : Int) == 0) = false := beq_false_of_ne (by have := List.length_pos_iff.2 hsn; omega)
    obtain ⟨lb1, lb2⟩ := And.intro (fun t => (low_bits (t := t) h0).1) (low_bits (t := 0) h0).2
    rw [bareD_pos h0] at e
    injection e with e1 e2 e3
    simp only at e1 e2 e3
    have hl := low2_lt h0
    have sM3 : bitN M ≤ 70400000 := sM
    have hlM : (digs DD M).length ≤ 5000000 := digsD16 (k := 4400000) sM3 (by omega)
    generalize low2 M = k at *
    obtain ⟨c1, c2⟩ := cutE_range E
    have HC := Lib.hid (fun w => rcut_n (w := w) h1 h2)
    generalize cutE E = c at *
    have hadd : IntKind.i64.wrap (c + (k : Int)) = c + (k : Int) := by rw [IntKind.wrap_i64]; omega
    subst e1 e3
    have LB1 := Lib.hid lb1; have LB2 := Lib.hid lb2; have E2 := Lib.hid e2
    have hk30 : k ≤ 70400000 := by omega
    have HS := Lib.hid (fun w v (h : RdD w v (digs DD M)) => rshr_big (n := k) h sM3 (by omega))
    unfold RShr at HS
    rw [e2] at HS
    have ht := Lib.hid (fun w v (h : NumB w v M) => to_nb h)
    clear lb1 lb2 e2
    go_enter Tryz.func18, Tryz.ntmps18
    go_wp2_with
    (first
      | (go_at_call 53; (with_reducible refine (ht.out _ _ (h.below below_2)).mono ?_); rintro e w1 ⟨vd1, rfl, d1, hb1⟩; have B1 := below_2.trans (hb1.mono below_2.size); have m1 := ((h.below below_2)).below hb1; have P1 := ((blk_a1)).below hb1; have R1 := ((blk_a2)).below hb1; obtain ⟨cP0_1, cP1_1, cP2_1, fP0_1, fP1_1, fP2_1, sP_1⟩ := P1.open3; obtain ⟨cR0_1, cR1_1, cR2_1, fR0_1, fR1_1, fR2_1, sR_1⟩ := R1.open3; obtain ⟨ad1, kd1, rfl, -⟩ := d1.view; try simp only [List.length_nil] at d1)
      | fail)
    have HD1 := Lib.hid d1; have HP1 := Lib.hid P1; have HR1 := Lib.hid R1; have HB1 := Lib.hid B1
    clear cP0_1 cP1_1 cP2_1 fP0_1 fP1_1 fP2_1 sP_1 cR0_1 cR1_1 cR2_1 fR0_1 fR1_1 fR2_1 sR_1 m1 hb1 P1 R1 B1 d1
    go_loopw [4] (fun x wr => ∃ t : Nat, x = .int .i64 t ∧ t ≤ k ∧ wr = w1) (fun x _ => k - (intOf x).toNat)
    case atStart => exact ⟨0, rfl, Nat.zero_le _, rfl⟩
    case round =>
      obtain ⟨t, rfl, ht', rfl⟩ := hrel
      have hBt := Lib.hid (rbit_big (i := t) HD1.out hlM (by omega))
      by_cases hlt : t < k
      · rw [LB1.out t hlt] at hBt
        go_wp2_with (go_at_call 54; (with_reducible refine hBt.out.mono ?_); rintro e w2 ⟨rfl, rfl⟩)
        go_round
        case rel => exact ⟨t + 1, by go_num, by omega, by first | rfl | trivial⟩
        case measure => simp [intOf]; omega
      · obtain rfl : t = k := by omega
        rw [LB2.out] at hBt
        have P1 := HP1.out; have R1 := HR1.out; have B1 := HB1.out; have d1 := HD1.out
        obtain ⟨cP0_0, cP1_0, cP2_0, fP0_0, fP1_0, fP2_0, sP_0⟩ := P1.open3
        obtain ⟨cR0_0, cR1_0, cR2_0, fR0_0, fR1_0, fR2_0, sR_0⟩ := R1.open3
        have BA := B1
        go_wp2_with
        (first
          | (go_at_call 54; (with_reducible refine (hBt.out).mono ?_); rintro e w2 ⟨rfl, rfl⟩)
          | (go_at_call 31; (with_reducible refine (HS.out _ _ d1).mono ?_); rintro e w3 ⟨vq3, rfl, q3, hb3⟩; have B3 := BA.trans (hb3.mono BA.size); have d3 := d1.below hb3; have P3 := P1.below hb3; have R3 := R1.below hb3; clear d1 P1 R1; obtain ⟨cP0_3, cP1_3, cP2_3, fP0_3, fP1_3, fP2_3, sP_3⟩ := P3.open3; obtain ⟨cR0_3, cR1_3, cR2_3, fR0_3, fR1_3, fR2_3, sR_3⟩ := R3.open3; obtain ⟨aq3, kq3, rfl, -⟩ := q3.view; try simp only [List.length_nil] at q3)
          | fail)
        go_still_tail 8, (by kernel_rfl)
        still_call (HC.out _)
        repeat still_step
        refine wpStill_nil ?_
        change wpList _ _ _ _ _ w3.drew
        have RD : Blk w3.drew _ _ := R3.below (below_drewN (Below.refl _ _) 1)
        have BD : Below w.heap.size w w3.drew := below_drewN B3 1
        have QD : RdD w3.drew _ _ := q3.below (below_drewN (Below.refl _ _) 1)
        clear cP0_3 cP1_3 cP2_3 fP0_3 fP1_3 fP2_3 sP_3 cR0_3 cR1_3 cR2_3 fR0_3 fR1_3 fR2_3 sR_3 P3 R3 B3 q3 d3
        generalize w3.drew = w4 at *
        obtain ⟨cR0, cR1, cR2, fR0, fR1, fR2, sR⟩ := RD.open3
        go_wp2
        obtain ⟨q0, q1, q2, -⟩ := (RD.set3 (.bool neg) (.slice aq3 (digs DD M').length kq3) (.int .i64 (c + (t : Int)))).open3
        refine bodyPost_ret (v := .agg #[.bool neg, .slice aq3 (digs DD M').length kq3, .int .i64 (c + (t : Int))]) ?_ rfl ?_
        · simp [results, Tryz.results18, go_sem, q0, q1, q2]
        · exact ⟨_, rfl, QD.set3 RD dcells32 _ _ _, below_set3 BD (by omega) _ _ _⟩
end Go.Proofs.YthmaoohjhnpamaaGreatDoor
