/- nat.Sub by its contract. Conditions: the lists are short, the limbs are limbs. -/
import Derived.Test.YtegpfmfobeigfaaDoorCmpA
import Derived.Shelf.Spec.BitsCarry
import Derived.Deep.RegionWith
import Derived.Laws.BitsLemmas
import Derived.Laws.Bits64b
import Derived.BigQuiet
import Derived.Deep.DeepCutAuto
import Derived.Deep.CutBlock
import Derived.Deep.QuietTactic
import Derived.Test.YtegpfmfobeigfaaDoorRefA
namespace Go.Proofs.YtegpfmfobeigfaaDoor
set_option maxRecDepth 100000
open Go.RowKit

/-- What math/bits.Sub64 hands back, by names. -/
def dLo (x y b : Nat) : Nat := (x + BB - y - b) % BB
def dHi (x y b : Nat) : Nat := if x < y + b then 1 else 0
theorem run_sub (x y b : Nat) (hb : b ≤ 1) (w : World) :
    (callFunc 72 #[.int .u64 x, .int .u64 y, .int .u64 b]).run Tryd.prog w = .ok (.value (.tuple #[.int .u64 (dLo x y b : Nat), .int .u64 (dHi x y b : Nat)])) w := by
  rw [run_callFunc_extern Tryd.func72 (by kernel_rfl) (by kernel_rfl) (by kernel_rfl) (e := sub64Entry) (by kernel_rfl), run_sub64 x y b hb]
  rfl
theorem dHi_le (x y b : Nat) : dHi x y b ≤ 1 := by unfold dHi; split <;> omega
theorem dLo_lt (x y b : Nat) : dLo x y b < BB := Nat.mod_lt _ BB_pos
theorem d_eq {x y b : Nat} (hx : x < BB) (hy : y < BB) (hb : b ≤ 1) : dLo x y b + y + b = x + BB * dHi x y b := by
  unfold dLo dHi
  have hB : 2 ≤ BB := BB_two
  generalize BB = M at *
  split
  · rw [Nat.mod_eq_of_lt (by omega)]; omega
  · rw [show x + M - y - b = x - y - b + M by omega, Nat.add_mod_right, Nat.mod_eq_of_lt (by omega)]; omega

/-- The loop's relation in Sub. -/
structure SubRel (w : World) (l m : List Nat) (k bw : Nat) (X : List Nat) (wr : World) : Prop where
  le : k ≤ l.length
  bw1 : bw ≤ 1
  len : X.length = l.length
  dig : Dig BB X
  sum : val BB (X.take k) + val BB (m.take k) = val BB (l.take k) + BB ^ k * bw
  own : wr.ownsRow w.heap.size 49 1 (.slice (some ⟨w.heap.size, 0, none⟩) l.length l.length) l.length (X.map L64)
  below : Below w.heap.size w wr

theorem SubRel.drewN {w wr : World} {l m X : List Nat} {k bw : Nat} (h : SubRel w l m k bw X wr) (n : Nat) : SubRel w l m k bw X (wr.drewN n) := ⟨h.le, h.bw1, h.len, h.dig, h.sum, h.own, below_drewN h.below n⟩

theorem SubRel.step {w wr : World} {l m X : List Nat} {k bw : Nat} (h : SubRel w l m k bw X wr) (hl : Dig BB l) (hm : Dig BB m) (hk : k < l.length) :
    SubRel w l m (k + 1) (dHi (l.getD k 0) (m.getD k 0) bw) (X.set k (dLo (l.getD k 0) (m.getD k 0) bw)) (wr.setCell ⟨w.heap.size, k, none⟩ (L64 (dLo (l.getD k 0) (m.getD k 0) bw))) :=
  ⟨hk, dHi_le _ _ _, by rw [List.length_set]; exact h.len, h.dig.set _ (dLo_lt _ _ _), by
    have e := d_eq (hl.getD BB_pos k) (hm.getD BB_pos k) h.bw1
    have hs := h.sum
    have e2 := congrArg (BB ^ k * ·) e
    simp only [Nat.mul_add] at e2
    rw [val_set_take BB X k _ (by rw [h.len]; exact hk), val_take_succ, val_take_succ, Nat.pow_succ, Nat.mul_assoc]
    omega, by
    rw [List.map_set]; exact (h.own.stored k _).1, h.below.setCell (Nat.le_refl _) _⟩

theorem val_take_le (B : Nat) (l : List Nat) (k : Nat) : val B (l.take k) ≤ val B l := by
  by_cases hk : k ≤ l.length
  · rw [val_take_drop B l k hk]; omega
  · rw [List.take_of_length_le (by omega)]; exact Nat.le_refl _

theorem val_take_lt' {B : Nat} {l : List Nat} {k : Nat} (h : val B l < B ^ k) : val B (l.take k) = val B l := by
  by_cases hk : k ≤ l.length
  · have e := val_take_drop B l k hk
    have : val B (l.drop k) = 0 := by
      refine Nat.eq_zero_of_not_pos fun hp => ?_
      have := Nat.le_mul_of_pos_right (B ^ k) hp
      omega
    rw [e, this]; omega
  · rw [List.take_of_length_le (by omega)]

theorem SubRel.fin {w wr : World} {l m X : List Nat} {bw : Nat} (h : SubRel w l m l.length bw X wr) (hl : Dig BB l) (hle : val BB m ≤ val BB l) : strip X = digs BB (val BB l - val BB m) := by
  have hs := h.sum
  have hlt := val_lt hl
  have hX := val_lt h.dig
  rw [h.len] at hX
  rw [List.take_length, ← h.len, List.take_length, h.len, val_take_lt' (by omega)] at hs
  have hb : bw = 0 := by
    rcases (by have := h.bw1; omega : bw = 0 ∨ bw = 1) with h0 | h0
    · exact h0
    · subst h0; omega
  subst hb
  rw [strip_eq BB_two h.dig]
  congr 1; omega

/-- What nat.Sub tells. -/
def subR (A B : Nat) : Nat × Int := if A < B then (0, 1) else (A - B, 0)

set_option maxHeartbeats 800000 in
theorem sub_any {w : World} {v u : Value} {l m : List Nat} (hl : RdN w v l) (hm : RdN w u m) (hdl : Dig BB l) (hdm : Dig BB m) (h1 : l.length ≤ 100000) (h2 : m.length ≤ 100000) :
    Calls Tryd.prog 50 #[v, u] w (OneE w (subR (val BB l) (val BB m))) := by
  have HC := cmp_any hl hm hdl hdm h1 h2
  obtain ⟨a, c, rfl, hac, hc, -, -⟩ := hl.view
  obtain ⟨b, d, rfl, hbc, hd, -, -⟩ := hm.view
  obtain ⟨i0, hi, hz0, hz1, hz2⟩ := info_parts infoU
  have HL := Lib.hid hl; have HM := Lib.hid hm; clear hl hm
  unfold subR
  by_cases hlt : val BB l < val BB m
  · rw [if_pos hlt]
    rw [cmpN_lt hlt] at HC
    go_enter Tryd.func50, Tryd.ntmps50
    go_wp2_with (go_at_call 49; (with_reducible refine HC.mono ?_); rintro e w1 ⟨rfl, hb1⟩)
    go_ret2
    exact ⟨_, rfl, RdN.nil0 _, hb1⟩
  · rw [if_neg hlt]
    have hge : decide (cmpN (val BB l) (val BB m) < 0) = false := by
      rcases Nat.lt_or_eq_of_le (Nat.le_of_not_lt hlt) with h | h
      · rw [cmpN_gt h]; rfl
      · rw [h, cmpN_eq]; rfl
    generalize cmpN (val BB l) (val BB m) = cq at HC hge
    go_enter Tryd.func50, Tryd.ntmps50
    go_wp2_with (first
      | (go_at_call 49; (with_reducible refine HC.mono ?_); rintro e w1 ⟨rfl, hb1⟩)
      | (at_make; go_loud (refine wpList_make_full _ rfl (.tmp 14) (.tmp 14) 22 rfl w1.heap.size 49 i0 (.int .u64 0) 1 Tryd.underlying22 hi hz0 hz1 .i64 .i64 l.length l.length l.length rfl rfl rfl rfl ?_ ?_ ?_ ?_; (any_goals (first | rfl | (rw [hz2]; omega) | (unfold maxLen; omega) | (with_reducible exact Nat.le_refl _))); intro w0 hown0 hgrow0)))
    rw [made_zero] at hown0
    have HS := Lib.hid (show SubRel w1 l m 0 0 (List.replicate l.length 0) w0 from ⟨Nat.zero_le _, by omega, by simp, Dig.replicate BB_pos _, by simp, hown0, (Below.refl _ _).grown hgrow0 (Nat.le_refl _) (by simp)⟩)
    clear hown0 hgrow0
    go_loopw [18, 7] (fun i bw wr => ∃ (k bw' : Nat) (X : List Nat), i = .int .i64 k ∧ bw = L64 bw' ∧ SubRel w1 l m k bw' X wr) (fun i _ _ => l.length - (intOf i).toNat)
    case atStart => exact ⟨0, 0, _, rfl, rfl, HS.out⟩
    case round =>
      obtain ⟨k, bw, X, rfl, rfl, hR⟩ := hrel
      have HR := Lib.hid hR
      have hbw := hR.bw1; have hXl := hR.len; have hkl := hR.le
      have hB := hb1.trans (hR.below.mono hb1.size)
      by_cases hk : k < l.length
      · have RM := HM.out.below hB
        obtain ⟨a1, c1, e1, -, -, -, hcx⟩ := (HL.out.below hB).view
        injection e1 with e1 e2 e3; subst e1 e3
        obtain ⟨g, of, rfl, hg, hcx⟩ := hcx k hk
        rw [← List.getD_eq_getElem?_getD] at hcx
        clear e2
        have hca := hR.own.cellAt k (by omega)
        rw [List.getElem?_map, List.getElem?_eq_getElem (by omega), Option.map_some, ← getD_lt] at hca
        have hfr := hR.own.frozenAt k
        have HS2 := Lib.hid ((hR.drewN 1).step hdl hdm hk)
        clear hR
        generalize X.getD k 0 = o at hca
        generalize l.getD k 0 = x at *
        have HLm := limb_nat (RM.below (below_drewN (Below.refl _ _) 1)) (k := k) (by omega)
        generalize m.getD k 0 = y at HLm HS2
        have HLm := Lib.hid HLm
        go_wp2_with fail
        go_region_with (first
          | (go_at_call 69; refine HLm.out.mono ?_; rintro e w1 ⟨rfl, rfl⟩)
          | simp only [run_sub _ _ _ hbw])
        all_goals
          go_wp2
          go_round
          case rel => exact ⟨k + 1, _, _, by go_num, rfl, HS2.out⟩
          case measure => simp [intOf]; omega
      · have hkl' : k = l.length := by omega
        subst hkl'
        have E := hR.fin hdl (by omega)
        have RX : RdN _ _ X := Rd.of_own hR.own (fun _ _ => trivial)
        clear hR
        go_wp2_with (go_at_call 54; (with_reducible refine (bare_any RX ?_).mono ?_); (focus omega); rintro e w3 ⟨v3, rfl, hr, hb3⟩)
        go_ret2
        rw [E] at hr
        exact ⟨_, rfl, hr, hB.trans (hb3.mono hB.size)⟩
end Go.Proofs.YtegpfmfobeigfaaDoor

/- math/bits.Div64 by its contract. Conditions: the high half is below the divisor. -/
namespace Go.Proofs.YtegpfmfobeigfaaDoor
set_option maxRecDepth 100000
open Go.RowKit

/-! ### one digit of a division by a number of two digits: b the base, D = d1 b + d0, U = u b + un -/
theorem half_up {b d1 d0 u un q r : Nat} (hq : q * d1 + r = u) (h : q * d0 ≤ b * r + un) : q * (d1 * b + d0) ≤ u * b + un := by
  have e : q * (d1 * b + d0) + r * b = u * b + q * d0 := by
    rw [Nat.mul_add, ← Nat.mul_assoc, ← hq, Nat.add_mul]; omega
  rw [Nat.mul_comm b r] at h
  omega
theorem half_dn {b d1 d0 u un q r : Nat} (hq : q * d1 + r = u) (h : b * r + un < q * d0) : u * b + un < q * (d1 * b + d0) := by
  have e : q * (d1 * b + d0) + r * b = u * b + q * d0 := by
    rw [Nat.mul_add, ← Nat.mul_assoc, ← hq, Nat.add_mul]; omega
  rw [Nat.mul_comm b r] at h
  omega
theorem half_big {b D U q : Nat} (h : U < D * b) (hq : b ≤ q) : U < q * D := by
  have := Nat.mul_le_mul_right D hq
  rw [Nat.mul_comm D b] at h; omega
theorem half_brk {b d0 un q r : Nat} (hr : b ≤ r) (hq : q ≤ b) (hd : d0 ≤ b) : q * d0 ≤ b * r + un := by
  have h1 := Nat.mul_le_mul hq hd
  have h2 := Nat.mul_le_mul_left b hr
  omega
theorem half_start {b d1 d0 u un : Nat} (hb : un < b) (hd : 0 < d1) : u * b + un < (u / d1 + 1) * (d1 * b + d0) := by
  have h1 := Nat.lt_mul_div_succ u hd
  have h2 : (u + 1) * b ≤ (u / d1 + 1) * d1 * b := Nat.mul_le_mul_right b (by rw [Nat.mul_comm]; exact h1)
  have h3 : (u / d1 + 1) * d1 * b ≤ (u / d1 + 1) * (d1 * b + d0) := by rw [Nat.mul_assoc]; exact Nat.mul_le_mul_left _ (by omega)
  rw [Nat.add_mul] at h2
  omega
theorem half_end {D U q : Nat} (h1 : q * D ≤ U) (h2 : U < (q + 1) * D) : U / D = q ∧ U - q * D = U % D := by
  have hd : U / D = q := Nat.div_eq_of_lt_le h1 h2
  refine ⟨hd, ?_⟩
  have := Nat.mod_add_div U D
  rw [hd, Nat.mul_comm] at this
  omega
theorem half_most {b d1 d0 u : Nat} (hu : u < d1 * b + d0) (hd0 : d0 < b) (h2 : b ≤ 2 * d1) (hd : 0 < d1) : u / d1 ≤ b + 1 := by
  have : u < d1 * (b + 2) := by rw [Nat.mul_add]; omega
  have := (Nat.div_lt_iff_lt_mul hd).2 (by rw [Nat.mul_comm] at this; exact this)
  omega

/-- A shift so far that the top bit is set. -/
theorem shift_top {y s : Nat} (h0 : y ≠ 0) (hy : y < 18446744073709551616) (hs : 64 - bitN y = s) : s ≤ 63 ∧ 9223372036854775808 ≤ y * 2 ^ s ∧ y * 2 ^ s < 18446744073709551616 := by
  have h1 := bitN_pos h0
  have h64 : bitN y ≤ 64 := bitN_le.2 hy
  have h2 := bitN_ge h0
  have h3 := bitN_lt y
  have e1 : 2 ^ (bitN y - 1) * 2 ^ s = 9223372036854775808 := by rw [← Nat.pow_add, show bitN y - 1 + s = 63 by omega]
  have e2 : 2 ^ bitN y * 2 ^ s = 18446744073709551616 := by rw [← Nat.pow_add, show bitN y + s = 64 by omega]
  have h4 := Nat.mul_le_mul_right (2 ^ s) h2
  have h5 := Nat.mul_lt_mul_of_pos_right h3 (Nat.pow_pos (n := s) (show 0 < 2 by omega))
  exact ⟨by omega, by omega, by omega⟩

/-- The dividend, shifted as far. -/
theorem shift_num {h l P R : Nat} (hPR : P * R = 18446744073709551616) : (h * 18446744073709551616 + l) * P / 18446744073709551616 = h * P + l / R ∧ (h * 18446744073709551616 + l) * P % 18446744073709551616 = l * P % 18446744073709551616 := by
  have e : (h * 18446744073709551616 + l) * P = l * P + 18446744073709551616 * (h * P) := by
    rw [Nat.add_mul, Nat.mul_right_comm, Nat.mul_comm (h * P)]; omega
  have hP : 0 < P := Nat.pos_of_ne_zero fun h => by rw [h] at hPR; omega
  have e2 : l * P / 18446744073709551616 = l / R := by rw [← hPR, Nat.mul_comm P R]; exact Nat.mul_div_mul_right _ _ hP
  rw [e, Nat.add_mul_div_left _ _ (by omega), Nat.add_mul_mod_self_left, e2]
  exact ⟨by omega, rfl⟩

theorem or_parts {h l s : Nat} (hs : s ≤ 63) (h1 : h * 2 ^ s < 18446744073709551616) (h2 : l < 18446744073709551616) : bits .or .u64 ((h * 2 ^ s : Nat) : Int) ((l / 2 ^ (64 - s) : Nat) : Int) = ((h * 2 ^ s + l / 2 ^ (64 - s) : Nat) : Int) := by
  have hlt : l / 2 ^ (64 - s) < 2 ^ s := by
    rw [Nat.div_lt_iff_lt_mul (Nat.pow_pos (by omega)), ← Nat.pow_add, show s + (64 - s) = 64 by omega]; exact h2
  have hb : l / 2 ^ (64 - s) < 2 ^ 64 := Nat.lt_of_le_of_lt (Nat.div_le_self _ _) h2
  rw [(bits_nat .u64 64 (by decide) (fun n h0 h1 => by rw [IntKind.wrap_u64]; omega) (h * 2 ^ s) (l / 2 ^ (64 - s)) h1 hb).2]
  rw [Nat.mul_comm h, Nat.two_pow_add_eq_or_of_lt hlt]

theorem low_half (x : Nat) (hx : x < 18446744073709551616) : bits .and .u64 (x : Int) 4294967295 = ((x % 4294967296 : Nat) : Int) := by
  have := bits_mask .u64 64 (by decide) (fun n h0 h1 => by rw [IntKind.wrap_u64]; omega) 32 (by decide) x (by omega) (by omega)
  have e : ((2 : Int) ^ 32 - 1) = 4294967295 := by decide
  rw [e] at this
  rw [this]; omega

/-- One half digit's loop: the guess, what is left, and that the guess isn't too small. -/
structure HalfRel (d1 d0 u un q r : Nat) : Prop where
  eq : q * d1 + r = u
  up : u * 4294967296 + un < (q + 1) * (d1 * 4294967296 + d0)
  most : q ≤ 4294967297
  small : r < 4294967296

theorem HalfRel.start {d1 d0 u un : Nat} (h1 : 2147483648 ≤ d1) (h2 : d1 < 4294967296) (hd : d0 < 4294967296) (hu : u < d1 * 4294967296 + d0) (hn : un < 4294967296) : HalfRel d1 d0 u un (u / d1) (u - u / d1 * d1) := by
  have e := Nat.mod_add_div u d1
  have hm := Nat.mod_lt u (show 0 < d1 by omega)
  rw [Nat.mul_comm] at e
  exact ⟨by omega, half_start hn (by omega), half_most hu hd (by omega) (by omega), by omega⟩
theorem HalfRel.fin {d1 d0 u un q r : Nat} (h : HalfRel d1 d0 u un q r) (hq : q * d0 ≤ 4294967296 * r + un) : (u * 4294967296 + un) / (d1 * 4294967296 + d0) = q ∧ u * 4294967296 + un - q * (d1 * 4294967296 + d0) = (u * 4294967296 + un) % (d1 * 4294967296 + d0) :=
  half_end (half_up h.eq hq) h.up
/-- Less by one. -/
theorem HalfRel.down {d1 d0 u un q r : Nat} (h : HalfRel d1 d0 u un q r) (hu : u < d1 * 4294967296 + d0) (hn : un < 4294967296) (hc : 4294967296 ≤ q ∨ 4294967296 * r + un < q * d0) :
    ∃ p, q = p + 1 ∧ p * d1 + (r + d1) = u ∧ u * 4294967296 + un < (p + 1) * (d1 * 4294967296 + d0) ∧ p ≤ 4294967296 := by
  have hU : u * 4294967296 + un < q * (d1 * 4294967296 + d0) := by
    rcases hc with hc | hc
    · refine half_big ?_ hc
      have := Nat.mul_le_mul_right 4294967296 (show u + 1 ≤ d1 * 4294967296 + d0 from hu)
      rw [Nat.add_mul] at this; omega
    · exact half_dn h.eq hc
  have hq0 : q ≠ 0 := fun h0 => by rw [h0] at hU; omega
  obtain ⟨p, rfl⟩ : ∃ p, q = p + 1 := ⟨q - 1, by omega⟩
  have e := h.eq
  rw [Nat.add_mul] at e
  exact ⟨p, rfl, by omega, hU, by have := h.most; omega⟩
theorem brk {d1 d0 u un p r : Nat} (he : p * d1 + r = u) (hU : u * 4294967296 + un < (p + 1) * (d1 * 4294967296 + d0)) (hr : 4294967296 ≤ r) (hp : p ≤ 4294967296) (hd : d0 < 4294967296) :
    (u * 4294967296 + un) / (d1 * 4294967296 + d0) = p ∧ u * 4294967296 + un - p * (d1 * 4294967296 + d0) = (u * 4294967296 + un) % (d1 * 4294967296 + d0) :=
  half_end (half_up he (half_brk hr hp (by omega))) hU
end Go.Proofs.YtegpfmfobeigfaaDoor

/- math/bits.Div64 by its contract: the walk. Conditions: the high half is below the divisor. -/
namespace Go.Proofs.YtegpfmfobeigfaaDoor
set_option maxRecDepth 100000
open Go.RowKit

theorem nn_eq {u x1 x0 x10 M NN b c : Nat} (hc : b * b = c) (h1 : u * b + x1 = M) (h2 : x1 * b + x0 = x10) (h3 : x10 + c * u = NN) : M * b + x0 = NN := by
  rw [← h3, ← h2, ← h1, ← hc, Nat.add_mul, Nat.mul_comm (b * b) u, Nat.mul_assoc]; omega
theorem two_step {M b x0 Y N Q U : Nat} (hY : 0 < Y) (hN : M * b + x0 = N) (hQ : M / Y = Q) (hU : M % Y = U) : N / Y = Q * b + (U * b + x0) / Y ∧ N % Y = (U * b + x0) % Y := by
  have e := Nat.mod_add_div M Y
  rw [hQ, hU] at e
  have e2 : N = U * b + x0 + Y * (Q * b) := by
    rw [← hN, ← e, Nat.add_mul, Nat.mul_assoc]; omega
  rw [e2, Nat.add_mul_div_left _ _ hY, Nat.add_mul_mod_self_left]
  exact ⟨by omega, rfl⟩
theorem quo_small {u b x Y : Nat} (hu : u < Y) (hx : x < b) : (u * b + x) / Y < b := by
  rw [Nat.div_lt_iff_lt_mul (by omega)]
  have := Nat.mul_le_mul_right b (show u + 1 ≤ Y from hu)
  rw [Nat.add_mul] at this; rw [Nat.mul_comm b Y]; omega

end Go.Proofs.YtegpfmfobeigfaaDoor

/- quo.Small by its contract. Conditions: the list is short, the limbs are limbs. -/
namespace Go.Proofs.YtegpfmfobeigfaaDoor
set_option maxRecDepth 100000
open Go.RowKit

/-- The loop's relation in Small: p limbs are still to come. -/
structure SmRel (w : World) (l : List Nat) (n p rest : Nat) (X : List Nat) (wr : World) : Prop where
  le : p ≤ l.length
  small : rest < n
  len : X.length = l.length
  dig : Dig BB X
  sum : val BB (X.drop p) * n + rest = val BB (l.drop p)
  own : wr.ownsRow w.heap.size 49 1 (.slice (some ⟨w.heap.size, 0, none⟩) l.length l.length) l.length (X.map L64)
  below : Below w.heap.size w wr
theorem SmRel.drewN {w wr : World} {l X : List Nat} {n p rest : Nat} (h : SmRel w l n p rest X wr) (d : Nat) : SmRel w l n p rest X (wr.drewN d) := ⟨h.le, h.small, h.len, h.dig, h.sum, h.own, below_drewN h.below d⟩

theorem drop_set_self (l : List Nat) (i x : Nat) (h : i < l.length) : (l.set i x).drop i = x :: l.drop (i + 1) := by
  rw [List.drop_eq_getElem_cons (by rw [List.length_set]; exact h), List.getElem_set_self, List.drop_set_of_lt (by omega)]

theorem SmRel.step {w wr : World} {l X : List Nat} {n i rest : Nat} (h : SmRel w l n (i + 1) rest X wr) (hd : Dig BB l) :
    SmRel w l n i ((rest * BB + l.getD i 0) % n) (X.set i ((rest * BB + l.getD i 0) / n)) (wr.setCell ⟨w.heap.size, i, none⟩ (L64 ((rest * BB + l.getD i 0) / n))) := by
  have hle := h.le
  have hn : 0 < n := Nat.lt_of_le_of_lt (Nat.zero_le _) h.small
  have hx := hd.getD BB_pos i
  have hq := quo_small h.small hx
  have e := Nat.mod_add_div (rest * BB + l.getD i 0) n
  refine ⟨by omega, Nat.mod_lt _ hn, by rw [List.length_set]; exact h.len, h.dig.set _ hq, ?_, by rw [List.map_set]; exact (h.own.stored i _).1, h.below.setCell (Nat.le_refl _) _⟩
  have hs := h.sum
  generalize (rest * BB + l.getD i 0) / n = q at *
  generalize (rest * BB + l.getD i 0) % n = r at *
  rw [drop_set_self X i _ (by rw [h.len]; omega), val_cons, val_drop_succ BB l i (by omega), ← hs, Nat.add_mul, Nat.mul_add, Nat.mul_assoc]
  rw [Nat.mul_comm rest BB] at e
  rw [Nat.mul_comm n q] at e
  omega

theorem SmRel.fin {w wr : World} {l X : List Nat} {n rest : Nat} (h : SmRel w l n 0 rest X wr) : strip X = digs BB (val BB l / n) ∧ rest = val BB l % n := by
  have hs := h.sum
  rw [List.drop_zero, List.drop_zero] at hs
  have hn : 0 < n := Nat.lt_of_le_of_lt (Nat.zero_le _) h.small
  have hd : val BB l / n = val BB X := by
    rw [← hs, Nat.mul_comm, Nat.mul_add_div hn, Nat.div_eq_of_lt h.small, Nat.add_zero]
  have hm : val BB l % n = rest := by
    rw [← hs, Nat.mul_comm, Nat.mul_add_mod, Nat.mod_eq_of_lt h.small]
  exact ⟨by rw [strip_eq BB_two h.dig, hd], hm.symm⟩

/-- What a function leaves that hands back a number, a limb and an error. -/
def OneLE (w : World) (r : Nat × Nat × Int) (e : Ending) (w' : World) : Prop :=
  ∃ v, e = .returned (.tuple #[v, L64 r.2.1, .int .i64 r.2.2]) ∧ RdN w' v (digs BB r.1) ∧ Below w.heap.size w w'
/-- What quo.Small tells. -/
def smallR (A n : Nat) : Nat × Nat × Int := if n = 0 then (0, 0, 1) else (A / n, A % n, 0)

end Go.Proofs.YtegpfmfobeigfaaDoor
