/- The document's products: Mul and Pow by their contracts. Conditions: the lists are short, the digits are digits. -/
import Derived.Test.YthmaoohjhnpamaaGreatDoorRefA
import Derived.BigQuiet
import Derived.Deep.QuietTactic
namespace Go.Proofs.YthmaoohjhnpamaaGreatDoor
set_option maxRecDepth 100000
open Go.RowKit

theorem val_set (B : Nat) : ∀ (l : List Nat) (p y : Nat), p < l.length → val B (l.set p y) + B ^ p * l.getD p 0 = val B l + B ^ p * y
  | [], p, y, h => by simp at h
  | x :: l, 0, y, _ => by simp; omega
  | x :: l, p + 1, y, h => by
    have ih := val_set B l p y (by simpa using h)
    simp only [List.set_cons_succ, val_cons, List.getD_cons_succ, Nat.pow_succ]
    have e : ∀ z, B ^ p * B * z = B * (B ^ p * z) := fun z => by rw [Nat.mul_comm (B ^ p) B, Nat.mul_assoc]
    rw [e, e]
    have := congrArg (B * ·) ih
    simp only [Nat.mul_add] at this
    omega

/-- What stands in the product's row. -/
structure MOwn (w : World) (N : Nat) (X : List Nat) (wr : World) : Prop where
  len : X.length = N
  dig : Dig DD X
  own : wr.ownsRow w.heap.size 84 1 (.slice (some ⟨w.heap.size, 0, none⟩) N N) N (X.map D32)
  below : Below w.heap.size w wr
/-- The outer loop's relation: i digits of l are done. -/
structure MOut (w : World) (N : Nat) (l m : List Nat) (i : Nat) (X : List Nat) (wr : World) : Prop where
  o : MOwn w N X wr
  le : i ≤ l.length
  sum : val DD X = val DD (l.take i) * val DD m
/-- The inner loop's relation. -/
structure MIn (w : World) (N : Nat) (l m : List Nat) (i k cy : Nat) (X : List Nat) (wr : World) : Prop where
  o : MOwn w N X wr
  cyl : cy < DD
  le : k ≤ m.length + 1
  sum : val DD X + DD ^ (i + k) * cy = val DD (l.take i) * val DD m + DD ^ i * (l.getD i 0 * val DD (m.take k))

theorem MOwn.drewN {w wr : World} {N : Nat} {X : List Nat} (h : MOwn w N X wr) (n : Nat) : MOwn w N X (wr.drewN n) := ⟨h.len, h.dig, h.own, below_drewN h.below n⟩
theorem MIn.drewN {w wr : World} {N : Nat} {l m : List Nat} {i k cy : Nat} {X : List Nat} (h : MIn w N l m i k cy X wr) (n : Nat) : MIn w N l m i k cy X (wr.drewN n) := ⟨h.o.drewN n, h.cyl, h.le, h.sum⟩

theorem MOut.start {w wr : World} {N : Nat} {l m : List Nat} {i : Nat} {X : List Nat} (h : MOut w N l m i X wr) : MIn w N l m i 0 0 X wr :=
  ⟨h.o, DD_pos, Nat.zero_le _, by rw [h.sum]; simp⟩

theorem MIn.go {w wr : World} {N : Nat} {l m : List Nat} {i k cy : Nat} {X : List Nat} (h : MIn w N l m i k cy X wr) (hdl : Dig DD l) (hdm : Dig DD m) (hi : i < l.length) (hg : k < m.length ∨ 0 < cy) : k ≤ m.length := by
  rcases hg with hg | hg
  · omega
  · refine Nat.le_of_not_lt fun hk => ?_
    have hs := h.sum
    rw [val_take_ge DD m k (by omega)] at hs
    have e : val DD (l.take i) * val DD m + DD ^ i * (l.getD i 0 * val DD m) = val DD (l.take (i + 1)) * val DD m := by
      rw [val_take_succ, Nat.add_mul, Nat.mul_assoc]
    rw [e] at hs
    have h1 := val_lt (hdl.take (i + 1))
    have h2 := val_lt hdm
    rw [List.length_take, Nat.min_eq_left (by omega)] at h1
    have h3 := Nat.mul_lt_mul'' h1 h2
    rw [← Nat.pow_add] at h3
    have h4 := Nat.pow_le_pow_right (n := DD) DD_pos (show i + 1 + m.length ≤ i + k by omega)
    have h5 := Nat.le_mul_of_pos_right (DD ^ (i + k)) hg
    omega

theorem mstep {b o cy x y : Nat} (hb : 2 ≤ b) (ho : o < b) (hc : cy < b) (hx : x < b) (hy : y < b) : o + cy + x * y < b * b ∧ (o + cy + x * y) / b < b := by
  have hm : x * y ≤ (b - 1) * (b - 1) := Nat.mul_le_mul (by omega) (by omega)
  have hmm : (b - 1) * (b - 1) + 2 * (b - 1) + 1 = b * b := by
    obtain ⟨p, rfl⟩ : ∃ p, b = p + 1 := ⟨b - 1, by omega⟩
    simp only [Nat.add_sub_cancel]
    simp only [Nat.add_mul, Nat.mul_add, Nat.one_mul, Nat.mul_one]; omega
  have h : o + cy + x * y < b * b := by omega
  exact ⟨h, (Nat.div_lt_iff_lt_mul (by omega)).2 h⟩

theorem MIn.step {w wr : World} {N : Nat} {l m : List Nat} {i k cy : Nat} {X : List Nat} (h : MIn w N l m i k cy X wr) (hdl : Dig DD l) (hdm : Dig DD m) (hk : k ≤ m.length) (hp : i + k < N) :
    MIn w N l m i (k + 1) ((X.getD (i + k) 0 + cy + l.getD i 0 * m.getD k 0) / DD) (X.set (i + k) ((X.getD (i + k) 0 + cy + l.getD i 0 * m.getD k 0) % DD))
      (wr.setCell ⟨w.heap.size, i + k, none⟩ (D32 ((X.getD (i + k) 0 + cy + l.getD i 0 * m.getD k 0) % DD))) := by
  have hst := mstep DD_two (h.o.dig.getD DD_pos (i + k)) h.cyl (hdl.getD DD_pos i) (hdm.getD DD_pos k)
  refine ⟨⟨by rw [List.length_set]; exact h.o.len, h.o.dig.set _ (Nat.mod_lt _ DD_pos), ?_, h.o.below.setCell (Nat.le_refl _) _⟩, hst.2, by omega, ?_⟩
  · rw [List.map_set]
    exact (h.o.own.stored _ _).1
  · have hs := h.sum
    have e1 := val_set DD X (i + k) ((X.getD (i + k) 0 + cy + l.getD i 0 * m.getD k 0) % DD) (by rw [h.o.len]; exact hp)
    have e2 := Nat.mod_add_div (X.getD (i + k) 0 + cy + l.getD i 0 * m.getD k 0) DD
    generalize (X.getD (i + k) 0 + cy + l.getD i 0 * m.getD k 0) % DD = r at *
    generalize hq : (X.getD (i + k) 0 + cy + l.getD i 0 * m.getD k 0) / DD = q at *
    have e3 := congrArg (DD ^ (i + k) * ·) e2
    simp only [Nat.mul_add] at e3
    rw [val_take_succ, show i + (k + 1) = i + k + 1 by omega, Nat.pow_succ, Nat.mul_assoc, Nat.mul_add, Nat.mul_add]
    have e4 : DD ^ i * (l.getD i 0 * (DD ^ k * m.getD k 0)) = DD ^ (i + k) * (l.getD i 0 * m.getD k 0) := by
      rw [Nat.pow_add, Nat.mul_left_comm (l.getD i 0), Nat.mul_assoc]
    rw [e4]
    omega

theorem MIn.fin {w wr : World} {N : Nat} {l m : List Nat} {i k : Nat} {X : List Nat} (h : MIn w N l m i k 0 X wr) (hi : i < l.length) (hk : m.length ≤ k) : MOut w N l m (i + 1) X wr :=
  ⟨h.o, hi, by
    have hs := h.sum
    rw [val_take_ge DD m k hk, Nat.mul_zero, Nat.add_zero] at hs
    rw [hs, val_take_succ, Nat.add_mul, Nat.mul_assoc]⟩

theorem made_zero32 (n : Nat) : (madeCells (Value.int .u32 0).cells (n * 1)).toList = (List.replicate n 0).map D32 := by
  rw [List.map_replicate]
  simp [madeCells, Value.cells, Nat.mod_one]
  exact List.ext_getElem (by simp) (by simp)

set_option maxHeartbeats 800000 in
theorem rmul_any {w : World} {v u : Value} {l m : List Nat} (h : RdD w v l) (k : RdD w u m) (hdl : Dig DD l) (hdm : Dig DD m) (hl : l.length ≤ 400000) (hm : m.length ≤ 400000) :
    Calls Tryz.prog 69 #[v, u] w (OneD w (digs DD (val DD l * val DD m))) := by
  obtain ⟨i0, hi, hz0, hz1, hz2⟩ := info_parts infoD
  obtain ⟨a, c, rfl, h2, h3, h4, -⟩ := h.view
  obtain ⟨a', c', rfl, h2', h3', h4', -⟩ := k.view
  have HL := Lib.hid h; have HM := Lib.hid k; clear h k
  obtain ⟨N, hN, hN1⟩ : ∃ N : Nat, ((l.length : Int) + (m.length : Int) + 1) = (N : Int) ∧ l.length + m.length + 1 = N := ⟨l.length + m.length + 1, by omega, rfl⟩
  go_enter Tryz.func69, Tryz.ntmps69
  go_wp2_with (at_make; go_loud (refine wpList_make_full _ rfl (.tmp 15) (.tmp 15) 26 rfl w.heap.size 84 i0 (.int .u32 0) 1 Tryz.underlying26 hi hz0 hz1 .i64 .i64 N N N rfl rfl rfl rfl ?_ ?_ ?_ ?_; (any_goals (first | rfl | (rw [hz2]; omega) | (unfold maxLen; omega) | (with_reducible exact Nat.le_refl _))); intro w0 hown0 hgrow0))
  rw [made_zero32] at hown0
  have hst : MOut w N l m 0 (List.replicate N 0) w0 := ⟨⟨by simp, Dig.replicate DD_pos N, hown0, (Below.refl _ _).grown hgrow0 (Nat.le_refl _) (by simp)⟩, Nat.zero_le _, by simp [val_replicate]⟩
  have HST := Lib.hid hst; clear hst hown0 hgrow0
  go_loopw [6] (fun i wr => ∃ (p : Nat) (X : List Nat), i = .int .i64 p ∧ MOut w N l m p X wr) (fun i _ => l.length - (intOf i).toNat)
  case atStart => exact ⟨0, _, rfl, HST.out⟩
  case round =>
    obtain ⟨i, X, rfl, hO⟩ := hrel
    have HO := Lib.hid hO
    have hil := hO.le
    by_cases hi2 : i < l.length
    · have HI := Lib.hid hO.start
      clear hO
      go_wp2
      go_loopw [7, 8] (fun cy k wr => ∃ (q cy' : Nat) (X : List Nat), k = .int .i64 q ∧ cy = D32 cy' ∧ MIn w N l m i q cy' X wr) (fun _ k _ => m.length + 1 - (intOf k).toNat)
      case atStart => exact ⟨0, 0, X, rfl, rfl, HI.out⟩
      case round =>
        clear HO HI
        obtain ⟨k, cy, X, rfl, rfl, hI⟩ := hrel
        have HI := Lib.hid hI
        have hgo := hI.go hdl hdm hi2
        have hcy := hI.cyl
        have hXl := hI.o.len
        have hB := hI.o.below
        have hst := mstep DD_two (hI.o.dig.getD DD_pos (i + k)) hcy (hdl.getD DD_pos i) (hdm.getD DD_pos k)
        have hx := hdl.getD DD_pos i
        have hy := hdm.getD DD_pos k
        have ho := hI.o.dig.getD DD_pos (i + k)
        by_cases hgo2 : k < m.length ∨ 0 < cy
        · have hkm := hgo hgo2
          have hkN : i + k < N := by omega
          have hca := hI.o.own.cellAt (i + k) (by omega)
          rw [List.getElem?_map, List.getElem?_eq_getElem (by omega), Option.map_some, ← getD_lt] at hca
          have hfr := hI.o.own.frozenAt (i + k)
          have HS := Lib.hid (fun nq => (hI.drewN nq).step hdl hdm hkm hkN)
          have HS0 := Lib.hid (hI.step hdl hdm hkm hkN)
          clear hI hgo
          by_cases hkl : k < m.length
          · obtain ⟨a1, c1, e1, -, -, -, hcx⟩ := (HL.out.below hB).view
            injection e1 with e1 e2 e3; subst e1 e3
            obtain ⟨g, of, rfl, hg, hcx⟩ := hcx i hi2
            rw [← List.getD_eq_getElem?_getD] at hcx
            clear e2
            obtain ⟨a1, c1, f1, -, -, -, hcy2⟩ := (HM.out.below hB).view
            injection f1 with f1 f2 f3; subst f1 f3
            obtain ⟨g', of', rfl, hg', hcy2⟩ := hcy2 k hkl
            rw [← List.getD_eq_getElem?_getD] at hcy2
            clear f2
            generalize l.getD i 0 = x at *
            generalize m.getD k 0 = y at *
            generalize X.getD (i + k) 0 = o at *
            obtain ⟨z, hz⟩ : ∃ z, x * y = z := ⟨_, rfl⟩
            have hz' : (x : Int) * (y : Int) = (z : Int) := by rw [← hz, Int.natCast_mul]
            rw [hz] at hst HS
            have hs1 := hst.1
            unfold DD at hs1 hcy ho
            clear hst hz hx hy HS0
            go_wp2_with (go_quiet (fail))
            go_round
            case rel => exact ⟨k + 1, (o + cy + z) / DD, _, by go_num, by simp [DD, D32], by simpa [DD, D32] using HS.out nq⟩
            case measure => simp [intOf]; omega
          · have zm : m.getD k 0 = 0 := by rw [List.getD_eq_getElem?_getD, List.getElem?_eq_none (by omega)]; rfl
            rw [zm, Nat.mul_zero, Nat.add_zero] at hst HS0
            clear HS
            generalize X.getD (i + k) 0 = o at *
            have hs1 := hst.1
            unfold DD at hs1 hcy ho
            clear hst hx hy zm
            go_wp2
            go_round
            case rel => exact ⟨k + 1, (o + cy) / DD, _, by go_num, by simp [DD, D32], by simpa [DD, D32] using HS0.out⟩
            case measure => simp [intOf]; omega
        · obtain rfl : cy = 0 := by omega
          have HF := Lib.hid (hI.fin hi2 (by omega))
          clear hI hst hx hy ho hgo
          go_wp2
          go_round
          case rel => exact ⟨i + 1, X, by go_num, HF.out⟩
          case measure => simp [intOf]; omega
    · have hil2 : i = l.length := by omega
      have E : strip X = digs DD (val DD l * val DD m) := by rw [strip_eq DD_two hO.o.dig, hO.sum, hil2, List.take_length]
      have RX : RdD _ _ X := Rd.of_own hO.o.own (fun _ _ => trivial)
      have hB := hO.o.below
      have hXl := hO.o.len
      clear hO
      go_wp2_with (go_at_call 90; (with_reducible refine (norm_any RX ?_).mono ?_); (focus omega); rintro e w3 ⟨v3, rfl, hr, hb3⟩)
      go_ret
      rw [E] at hr
      exact ⟨_, rfl, hr, hB.trans (hb3.mono hB.size)⟩

theorem digs_len_bits {n k : Nat} (h : bitN n ≤ k) : (digs DD n).length ≤ k := by
  rw [digs_length_le DD_two]
  refine Nat.lt_of_lt_of_le (bitN_lt n) (Nat.le_trans (Nat.pow_le_pow_right (by omega) h) (Nat.pow_le_pow_left DD_two k))

theorem rmul_num {w : World} {v u : Value} {A B : Nat} (h : RdD w v (digs DD A)) (k : RdD w u (digs DD B)) (hl : (digs DD A).length ≤ 400000) (hm : (digs DD B).length ≤ 400000) :
    Calls Tryz.prog 69 #[v, u] w (OneD w (digs DD (A * B))) := by
  have := rmul_any h k (dig_digs DD_two A) (dig_digs DD_two B) hl hm
  rw [val_digs DD_two, val_digs DD_two] at this
  exact this

theorem num_one {w : World} : Calls Tryz.prog 48 #[.int .u64 1] w (OneD w (digs DD 1)) := num_any (by decide)

end Go.Proofs.YthmaoohjhnpamaaGreatDoor
