/- dyad.widened, Of, Make by their contracts. Conditions: the number is short; math/bits' table stands in its variable. -/
import Derived.Test.YtecgimdgmilcbaaDoorDy2
namespace Go.Proofs.YtecgimdgmilcbaaDoor
set_option maxRecDepth 100000
open Go.RowKit Go.ChangeShapes Go.WideShapes

/-- The loop's relation in widened: k limbs are done. -/
structure Wid (w : World) (l : List Nat) (wh pt k cy : Nat) (X : List Nat) (v : Value) (wr : World) : Prop where
  le : k ≤ l.length
  len : X.length = wh + k
  dig : Dig BB X
  low : cy < 2 ^ pt
  sum : val BB X + BB ^ (wh + k) * cy = BB ^ wh * (val BB (l.take k) * 2 ^ pt)
  own : wr.ownsRow w.heap.size 39 1 v X.length (X.map L64)
  below : Below w.heap.size w wr
theorem Wid.step {w wr wr' : World} {l X : List Nat} {wh pt k cy : Nat} {v v' : Value} (h : Wid w l wh pt k cy X v wr) (hp : pt < 64) (hl : Dig BB l) (hk : k < l.length)
    (ho : wr'.ownsRow w.heap.size 39 1 v' (X.length + 1) (X.map L64 ++ [L64 (l.getD k 0 * 2 ^ pt % BB + cy)])) (hb : Below w.heap.size w wr') :
    Wid w l wh pt (k + 1) (l.getD k 0 / 2 ^ (64 - pt)) (X ++ [l.getD k 0 * 2 ^ pt % BB + cy]) v' wr' := by
  have hx := hl.getD BB_pos k
  have hPR : 2 ^ pt * 2 ^ (64 - pt) = BB := by rw [← Nat.pow_add, show pt + (64 - pt) = 64 by omega, BB_pow]
  have hP : 0 < 2 ^ pt := Nat.pow_pos (by omega)
  have hdiv : l.getD k 0 * 2 ^ pt / BB = l.getD k 0 / 2 ^ (64 - pt) := by rw [← hPR, Nat.mul_comm (2 ^ pt)]; exact Nat.mul_div_mul_right _ _ hP
  have hor := (or_low' (x := l.getD k 0) (show pt ≤ 64 by omega) h.low).2
  have hc : l.getD k 0 / 2 ^ (64 - pt) < 2 ^ pt := by
    rw [Nat.div_lt_iff_lt_mul (Nat.pow_pos (by omega)), hPR]; exact hx
  have e := Nat.mod_add_div (l.getD k 0 * 2 ^ pt) BB
  rw [hdiv] at e
  have hs := h.sum
  refine ⟨hk, by rw [List.length_append, h.len]; rfl, h.dig.append (Dig.cons hor (Dig.nil _)), hc, ?_, by rw [List.length_append, List.map_append]; exact ho, hb⟩
  rw [val_append, val_one, h.len, val_take_succ]
  generalize l.getD k 0 * 2 ^ pt % BB = lo at *
  generalize l.getD k 0 / 2 ^ (64 - pt) = hi at *
  generalize l.getD k 0 = x at *
  have e2 := congrArg (BB ^ (wh + k) * ·) e
  simp only [Nat.mul_add] at e2
  rw [show wh + (k + 1) = wh + k + 1 by omega, Nat.pow_succ, Nat.mul_assoc, Nat.mul_add, Nat.add_mul, Nat.mul_add]
  have e3 : BB ^ wh * (BB ^ k * x * 2 ^ pt) = BB ^ (wh + k) * (x * 2 ^ pt) := by rw [Nat.pow_add, Nat.mul_assoc, Nat.mul_assoc]
  rw [e3]
  omega
theorem Wid.fin {w wr wr' : World} {l X : List Nat} {wh pt cy : Nat} {v v' : Value} (h : Wid w l wh pt l.length cy X v wr) (hp : pt < 64) (hl : wh + l.length + 1 ≤ 40000)
    (ho : wr'.ownsRow w.heap.size 39 1 v' (X.length + 1) (X.map L64 ++ [L64 cy])) : Num wr' v' (val BB l * 2 ^ (64 * wh + pt)) := by
  have hc : cy < BB := by
    refine Nat.lt_of_lt_of_le h.low ?_
    rw [BB_pow]; exact Nat.pow_le_pow_right (by omega) (by omega)
  have e : val BB (X ++ [cy]) = val BB l * 2 ^ (64 * wh + pt) := by
    rw [val_append, val_one, h.len, h.sum, List.take_length, Nat.pow_add, Nat.pow_mul, ← BB_pow, Nat.mul_left_comm]
  rw [← e]
  have h2 : RdN wr' v' (X ++ [cy]) := Rd.of_own (by rw [List.map_append]; exact ho) (fun _ _ => trivial)
  exact h2.numl (h.dig.append (Dig.cons hc (Dig.nil _))) (by rw [List.length_append, h.len]; simp; omega)

/-- A number's own limbs, shifted by whole limbs and bits. -/
theorem widened_zero {w : World} {v : Value} {M : Nat} {n : Int} (h : Num w v M) (hn : n ≤ 0) :
    Calls Tryd.prog 76 #[v, .int .i64 n] w (fun e w' => ∃ v, e = .returned v ∧ Num w' v M ∧ Below w.heap.size w w') := by
  go_enter Tryd.func76, Tryd.ntmps76
  go_wp2
  go_ret
  exact ⟨_, rfl, h, Below.refl _ _⟩

set_option maxHeartbeats 800000 in
theorem widened_n {w : World} {v : Value} {M n : Nat} (h : RdN w v (digs BB M)) (hn : 0 < n) (hs : bitN M + n ≤ 2000000) :
    Calls Tryd.prog 76 #[v, .int .i64 n] w (fun e w' => ∃ v, e = .returned v ∧ Num w' v (M * 2 ^ n) ∧ Below w.heap.size w w') := by
  obtain ⟨i0, hi, hz0, hz1, hz2⟩ := info_parts infoU
  obtain ⟨wh, hwh⟩ : ∃ x, n / 64 = x := ⟨_, rfl⟩
  obtain ⟨pt, hpt⟩ : ∃ x, n % 64 = x := ⟨_, rfl⟩
  have hnw : n = 64 * wh + pt := by omega
  have hpt64 : pt < 64 := by omega
  have hwI2 : (n : Int).tdiv 64 = (wh : Int) := by rw [Int.tdiv_eq_ediv_of_nonneg (by omega)]; omega
  have hpI2 : (n : Int).tmod 64 = (pt : Int) := by rw [Int.tmod_eq_emod_of_nonneg (by omega)]; omega
  have hlen : (digs BB M).length + wh ≤ 31252 := by
    have := digs_short (n := M) (k := bitN M / 64 + 1) (by omega)
    omega
  have hwh2 : wh ≤ 31250 := by omega
  have hd := dig_digs BB_two M
  have hv := val_digs BB_two M
  generalize digs BB M = l at *
  have HNW := Lib.hid hnw
  clear hwh hpt hnw
  obtain ⟨a, c, rfl, hac, hc, -, -⟩ := h.view
  have HL := Lib.hid h; clear h
  go_enter Tryd.func76, Tryd.ntmps76
  go_wp2_with (at_make; go_loud (refine wpList_make_full _ rfl (.tmp 14) (.tmp 14) 22 rfl w.heap.size 39 i0 (.int .u64 0) 1 Tryd.underlying22 hi hz0 hz1 .i64 .i64 wh wh wh ?_ ?_ rfl rfl ?_ ?_ ?_ ?_; (any_goals (first | rfl | (rw [hz2]; omega) | (unfold maxLen; omega) | (with_reducible exact Nat.le_refl _))); intro w0 hown0 hgrow0))
  rw [made_zero] at hown0
  have hst : Wid w l wh pt 0 0 (List.replicate wh 0) (.slice (some ⟨w.heap.size, 0, none⟩) wh wh) w0 := ⟨Nat.zero_le _, by simp, Dig.replicate BB_pos _, Nat.pow_pos (by omega), by rw [val_replicate, List.take_zero, val_nil]; simp, by rw [List.length_replicate]; exact hown0, (Below.refl _ _).grown hgrow0 (Nat.le_refl _) (by simp)⟩
  have HST := Lib.hid hst
  clear hst hown0 hgrow0
  go_loopw [5, 7, 20] (fun v c i wr => ∃ (k cy : Nat) (X : List Nat), i = .int .i64 k ∧ c = L64 cy ∧ Wid w l wh pt k cy X v wr) (fun _ _ i _ => l.length - (intOf i).toNat)
  case atStart => exact ⟨0, 0, _, rfl, rfl, HST.out⟩
  case round =>
    clear HST
    obtain ⟨k, cy, X, rfl, rfl, hR⟩ := hrel
    have HR := Lib.hid hR
    have hk := hR.le; have hXl := hR.len; have hB := hR.below
    have hsz := hB.size
    have hown := hR.own
    by_cases hkn : k < l.length
    · obtain ⟨a', c', e1, -, -, -, hc2⟩ := (HL.out.below hB).view
      injection e1 with e1 e2 e3; subst e1 e3
      obtain ⟨g, of, rfl, hg, hcell⟩ := hc2 k hkn
      rw [← List.getD_eq_getElem?_getD] at hcell
      clear hc2 e2
      obtain ⟨hor, hob⟩ := or_low' (x := l.getD k 0) (show pt ≤ 64 by omega) hR.low
      have hXI : IntKind.u64.wrap ((l.getD k 0 : Int) * 2 ^ pt) = ((l.getD k 0 * 2 ^ pt % BB : Nat) : Int) := by rw [IntKind.wrap_u64, show BB = 18446744073709551616 from rfl]; simp
      have hLI : (l.getD k 0 : Int) / 2 ^ (64 - pt) = ((l.getD k 0 / 2 ^ (64 - pt) : Nat) : Int) := by simp
      have hx := hd.getD BB_pos k
      have hxb : l.getD k 0 / 2 ^ (64 - pt) ≤ l.getD k 0 := Nat.div_le_self _ _
      have HS := Lib.hid (fun (v' : Value) (wr' : World) => hR.step (wr' := wr') (v' := v') hpt64 hd hkn)
      clear hR
      generalize l.getD k 0 * 2 ^ pt % BB = lo at *
      generalize l.getD k 0 / 2 ^ (64 - pt) = hi' at *
      generalize l.getD k 0 = x at *
      obtain ⟨t, ht⟩ : ∃ t, lo + cy = t := ⟨_, rfl⟩
      rw [ht] at hor hob HS
      clear ht
      have hx64 : x < 18446744073709551616 := hx
      have hm1 : min pt 64 = pt := by omega
      have hm2 : min ((64 : Int) - (pt : Int)).toNat 64 = 64 - pt := by omega
      have hW1 : IntKind.u64.wrap (t : Int) = (t : Int) := by rw [IntKind.wrap_u64]; omega
      have hW2 : IntKind.u64.wrap (hi' : Int) = (hi' : Int) := by rw [IntKind.wrap_u64]; omega
      have hW4 : IntKind.i64.wrap (64 - (pt : Int)) = 64 - (pt : Int) := by rw [IntKind.wrap_i64]; omega
      go_wp2_with (at_builtin; go_loud (refine wpList_append_own _ rfl _ _ 22 rfl w.heap.size 39 i0 (.int .u64 0) 1 8 Tryd.underlying22 hi hz0 hz1 hz2 rfl (by decide) _ _ _ rfl (hown.alloc _) ⟨wr.heap.size, 0, none⟩ 1 1 [.int .u64 (t : Int)] rfl rfl (cell_one_new _ _ _) (by simp [Value.oneCell']) ?_ ?_ ?_ ?_; (focus (unfold maxLen; omega)); (focus omega); (focus (simp; omega)); intro v2 w2 hown2 hg2 _; have HS2 := Lib.hid (HS.out _ _ hown2 ((hB.alloc hB.size _).grown hg2 (by simp; omega) (fun k hk => (hown.lt k hk).1))); clear hown2 hg2))
      go_round
      case rel => exact ⟨k + 1, hi', _, by go_num, rfl, HS2.out⟩
      case measure => simp [intOf]; omega
    · have hkl : k = l.length := by omega
      subst hkl
      clear hR
      go_wp2_with (at_builtin; go_loud (refine wpList_append_own _ rfl _ _ 22 rfl w.heap.size 39 i0 (.int .u64 0) 1 8 Tryd.underlying22 hi hz0 hz1 hz2 rfl (by decide) _ _ _ rfl (hown.alloc _) ⟨wr.heap.size, 0, none⟩ 1 1 [.int .u64 (cy : Int)] rfl rfl (cell_one_new _ _ _) (by simp [Value.oneCell']) ?_ ?_ ?_ ?_; (focus (unfold maxLen; omega)); (focus omega); (focus (simp; omega)); intro v2 w2 hown2 hg2 _; have HF := Lib.hid (HR.out.fin hpt64 (by omega) hown2); have HB2 := Lib.hid ((hB.alloc hB.size _).grown hg2 (by simp; omega) (fun k hk => (hown.lt k hk).1)); clear hown2 hg2))
      go_ret
      refine ⟨_, rfl, ?_, HB2.out⟩
      have := HF.out
      rw [hv, ← HNW.out] at this
      exact this
end Go.Proofs.YtecgimdgmilcbaaDoor
