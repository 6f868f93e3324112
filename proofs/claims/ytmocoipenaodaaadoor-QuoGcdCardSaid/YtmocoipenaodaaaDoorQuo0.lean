/- nat.Sub by its contract. Conditions: the lists are short, the limbs are limbs. -/
import Derived.Test.YtmocoipenaodaaaDoorCmp2
import Derived.Shelf.Spec.BitsCarry
import Derived.Deep.RegionWith
namespace Go.Proofs.YtmocoipenaodaaaDoor
open Go.RowKit

/-- What math/bits.Sub64 hands back, by names. -/
def dLo (x y b : Nat) : Nat := (x + BB - y - b) % BB
def dHi (x y b : Nat) : Nat := if x < y + b then 1 else 0
theorem run_sub (x y b : Nat) (hb : b ≤ 1) (w : World) :
    (callFunc 41 #[.int .u64 x, .int .u64 y, .int .u64 b]).run Tryd.prog w = .ok (.value (.tuple #[.int .u64 (dLo x y b : Nat), .int .u64 (dHi x y b : Nat)])) w := by
  rw [run_callFunc_extern Tryd.func41 (by kernel_rfl) (by kernel_rfl) (by kernel_rfl) (e := sub64Entry) (by kernel_rfl), run_sub64 x y b hb]
  rfl
theorem dHi_le (x y b : Nat) : dHi x y b ≤ 1 := by unfold dHi; split <;> omega
theorem dLo_lt (x y b : Nat) : dLo x y b < BB := Nat.mod_lt _ BB_pos
theorem d_eq {x y b : Nat} (hx : x < BB) (hy : y < BB) (hb : b ≤ 1) : dLo x y b + y + b = x + BB * dHi x y b := by
  unfold dLo dHi
  have hB : 2 ≤ BB := BB_two
  generalize BB = M at *
  split
  · rw [Nat.mod_eq_of_lt (by omega)]; omega
  · rw [show x + M - y - b = x - y - b + M by omega, Nat.add_mod_right, Nat.mod_eq_of_lt (by omega)]; omega

/-- The loop's relation in Sub. -/
structure SubRel (w : World) (l m : List Nat) (k bw : Nat) (X : List Nat) (wr : World) : Prop where
  le : k ≤ l.length
  bw1 : bw ≤ 1
  len : X.length = l.length
  dig : Dig BB X
  sum : val BB (X.take k) + val BB (m.take k) = val BB (l.take k) + BB ^ k * bw
  own : wr.ownsRow w.heap.size 23 1 (.slice (some ⟨w.heap.size, 0, none⟩) l.length l.length) l.length (X.map L64)
  below : Below w.heap.size w wr

theorem SubRel.drewN {w wr : World} {l m X : List Nat} {k bw : Nat} (h : SubRel w l m k bw X wr) (n : Nat) : SubRel w l m k bw X (wr.drewN n) := ⟨h.le, h.bw1, h.len, h.dig, h.sum, h.own, below_drewN h.below n⟩

theorem SubRel.step {w wr : World} {l m X : List Nat} {k bw : Nat} (h : SubRel w l m k bw X wr) (hl : Dig BB l) (hm : Dig BB m) (hk : k < l.length) :
    SubRel w l m (k + 1) (dHi (l.getD k 0) (m.getD k 0) bw) (X.set k (dLo (l.getD k 0) (m.getD k 0) bw)) (wr.setCell ⟨w.heap.size, k, none⟩ (L64 (dLo (l.getD k 0) (m.getD k 0) bw))) :=
  ⟨hk, dHi_le _ _ _, by rw [List.length_set]; exact h.len, h.dig.set _ (dLo_lt _ _ _), by
    have e := d_eq (hl.getD BB_pos k) (hm.getD BB_pos k) h.bw1
    have hs := h.sum
    have e2 := congrArg (BB ^ k * ·) e
    simp only [Nat.mul_add] at e2
    rw [val_set_take BB X k _ (by rw [h.len]; exact hk), val_take_succ, val_take_succ, Nat.pow_succ, Nat.mul_assoc]
    omega, by
    rw [List.map_set]; exact (h.own.stored k _).1, h.below.setCell (Nat.le_refl _) _⟩

theorem val_take_le (B : Nat) (l : List Nat) (k : Nat) : val B (l.take k) ≤ val B l := by
  by_cases hk : k ≤ l.length
  · rw [val_take_drop B l k hk]; omega
  · rw [List.take_of_length_le (by omega)]; exact Nat.le_refl _

theorem val_take_lt' {B : Nat} {l : List Nat} {k : Nat} (h : val B l < B ^ k) : val B (l.take k) = val B l := by
  by_cases hk : k ≤ l.length
  · have e := val_take_drop B l k hk
    have : val B (l.drop k) = 0 := by
      refine Nat.eq_zero_of_not_pos fun hp => ?_
      have := Nat.le_mul_of_pos_right (B ^ k) hp
      omega
    rw [e, this]; omega
  · rw [List.take_of_length_le (by omega)]

theorem SubRel.fin {w wr : World} {l m X : List Nat} {bw : Nat} (h : SubRel w l m l.length bw X wr) (hl : Dig BB l) (hle : val BB m ≤ val BB l) : strip X = digs BB (val BB l - val BB m) := by
  have hs := h.sum
  have hlt := val_lt hl
  have hX := val_lt h.dig
  rw [h.len] at hX
  rw [List.take_length, ← h.len, List.take_length, h.len, val_take_lt' (by omega)] at hs
  have hb : bw = 0 := by
    rcases (by have := h.bw1; omega : bw = 0 ∨ bw = 1) with h0 | h0
    · exact h0
    · subst h0; omega
  subst hb
  rw [strip_eq BB_two h.dig]
  congr 1; omega

/-- What nat.Sub tells. -/
def subR (A B : Nat) : Nat × Int := if A < B then (0, 1) else (A - B, 0)

set_option maxHeartbeats 800000 in
theorem sub_any {w : World} {v u : Value} {l m : List Nat} (hl : RdN w v l) (hm : RdN w u m) (hdl : Dig BB l) (hdm : Dig BB m) (h1 : l.length ≤ 100000) (h2 : m.length ≤ 100000) :
    Calls Tryd.prog 22 #[v, u] w (OneE w (subR (val BB l) (val BB m))) := by
  have HC := cmp_any hl hm hdl hdm h1 h2
  obtain ⟨a, c, rfl, hac, hc, -, -⟩ := hl.view
  obtain ⟨b, d, rfl, hbc, hd, -, -⟩ := hm.view
  obtain ⟨i0, hi, hz0, hz1, hz2⟩ := info_parts infoU
  have HL := Lib.hid hl; have HM := Lib.hid hm; clear hl hm
  unfold subR
  by_cases hlt : val BB l < val BB m
  · rw [if_pos hlt]
    rw [cmpN_lt hlt] at HC
    go_enter Tryd.func22, Tryd.ntmps22
    go_wp2_with (go_at_call 18; (with_reducible refine HC.mono ?_); rintro e w1 ⟨rfl, hb1⟩)
    go_ret2
    exact ⟨_, rfl, RdN.nil0 _, hb1⟩
  · rw [if_neg hlt]
    have hge : decide (cmpN (val BB l) (val BB m) < 0) = false := by
      rcases Nat.lt_or_eq_of_le (Nat.le_of_not_lt hlt) with h | h
      · rw [cmpN_gt h]; rfl
      · rw [h, cmpN_eq]; rfl
    generalize cmpN (val BB l) (val BB m) = cq at HC hge
    go_enter Tryd.func22, Tryd.ntmps22
    go_wp2_with (first
      | (go_at_call 18; (with_reducible refine HC.mono ?_); rintro e w1 ⟨rfl, hb1⟩)
      | (at_make; go_loud (refine wpList_make_full _ rfl (.tmp 14) (.tmp 14) 22 rfl w1.heap.size 23 i0 (.int .u64 0) 1 Tryd.underlying22 hi hz0 hz1 .i64 .i64 l.length l.length l.length rfl rfl rfl rfl ?_ ?_ ?_ ?_; (any_goals (first | rfl | (rw [hz2]; omega) | (unfold maxLen; omega) | (with_reducible exact Nat.le_refl _))); intro w0 hown0 hgrow0)))
    rw [made_zero] at hown0
    have HS := Lib.hid (show SubRel w1 l m 0 0 (List.replicate l.length 0) w0 from ⟨Nat.zero_le _, by omega, by simp, Dig.replicate BB_pos _, by simp, hown0, (Below.refl _ _).grown hgrow0 (Nat.le_refl _) (by simp)⟩)
    clear hown0 hgrow0
    go_loopw [18, 7] (fun i bw wr => ∃ (k bw' : Nat) (X : List Nat), i = .int .i64 k ∧ bw = L64 bw' ∧ SubRel w1 l m k bw' X wr) (fun i _ _ => l.length - (intOf i).toNat)
    case atStart => exact ⟨0, 0, _, rfl, rfl, HS.out⟩
    case round =>
      obtain ⟨k, bw, X, rfl, rfl, hR⟩ := hrel
      have HR := Lib.hid hR
      have hbw := hR.bw1; have hXl := hR.len; have hkl := hR.le
      have hB := hb1.trans (hR.below.mono hb1.size)
      by_cases hk : k < l.length
      · have RM := HM.out.below hB
        obtain ⟨a1, c1, e1, -, -, -, hcx⟩ := (HL.out.below hB).view
        injection e1 with e1 e2 e3; subst e1 e3
        obtain ⟨g, of, rfl, hg, hcx⟩ := hcx k hk
        rw [← List.getD_eq_getElem?_getD] at hcx
        clear e2
        have hca := hR.own.cellAt k (by omega)
        rw [List.getElem?_map, List.getElem?_eq_getElem (by omega), Option.map_some, ← getD_lt] at hca
        have hfr := hR.own.frozenAt k
        have HS2 := Lib.hid ((hR.drewN 1).step hdl hdm hk)
        clear hR
        generalize X.getD k 0 = o at hca
        generalize l.getD k 0 = x at *
        have HLm := limb_nat (RM.below (below_drewN (Below.refl _ _) 1)) (k := k) (by omega)
        generalize m.getD k 0 = y at HLm HS2
        have HLm := Lib.hid HLm
        go_wp2_with fail
        go_region_with (first
          | (go_at_call 39; refine HLm.out.mono ?_; rintro e w1 ⟨rfl, rfl⟩)
          | simp only [run_sub _ _ _ hbw])
        all_goals
          go_wp2
          go_round
          case rel => exact ⟨k + 1, _, _, by go_num, rfl, HS2.out⟩
          case measure => simp [intOf]; omega
      · have hkl' : k = l.length := by omega
        subst hkl'
        have E := hR.fin hdl (by omega)
        have RX : RdN _ _ X := Rd.of_own hR.own (fun _ _ => trivial)
        clear hR
        go_wp2_with (go_at_call 25; (with_reducible refine (bare_any RX ?_).mono ?_); (focus omega); rintro e w3 ⟨v3, rfl, hr, hb3⟩)
        go_ret2
        rw [E] at hr
        exact ⟨_, rfl, hr, hB.trans (hb3.mono hB.size)⟩
end Go.Proofs.YtmocoipenaodaaaDoor
