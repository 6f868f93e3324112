/- quo.takeOff and quo.putBack by their contracts. Conditions: the lists are short, the limbs are limbs, the place is one limb longer than the number. -/
import Derived.Test.YtnoelffaccekjaaDoorQuo3
namespace Go.Proofs.YtnoelffaccekjaaDoor
open Go.RowKit

/-- One limb's work in takeOff: the product and what is carried. -/
theorem take_one {b x q cy : Nat} (hb : 0 < b) (hx : x < b) (hq : q < b) (hc : cy < b) :
    x * q / b + (x * q % b + cy) / b < b ∧ (x * q % b + cy) % b + b * (x * q / b + (x * q % b + cy) / b) = x * q + cy := by
  have h := one_place (o := 0) hb hx hq hc hb
  have e1 := Nat.mod_add_div (x * q) b
  have e2 := Nat.mod_add_div (x * q % b + cy) b
  refine ⟨h.1, ?_⟩
  rw [Nat.mul_add]; omega

/-- A row of which a part is written. -/
structure PartOwn (w : World) (B N base : Nat) (X0 X : List Nat) (wr : World) : Prop where
  len : X.length = X0.length
  dig : Dig BB X
  own : wr.ownsRow base 33 1 (.slice (some ⟨B, 0, none⟩) N N) N (X.map L64)
  fr : Fr (fun g => g = B) w wr
theorem PartOwn.drewN {w wr : World} {B N base : Nat} {X0 X : List Nat} (h : PartOwn w B N base X0 X wr) (n : Nat) : PartOwn w B N base X0 X (wr.drewN n) :=
  ⟨h.len, h.dig, h.own, h.fr.trans ((Fr.of_drewN wr n).mono (fun _ h => h.elim))⟩
theorem PartOwn.set {w wr : World} {B N base : Nat} {X0 X : List Nat} (h : PartOwn w B N base X0 X wr) (p : Nat) {x : Nat} (hx : x < BB) : PartOwn w B N base X0 (X.set p x) (wr.setCell ⟨B, p, none⟩ (L64 x)) :=
  ⟨by rw [List.length_set]; exact h.len, h.dig.set _ hx, by rw [List.map_set]; exact (h.own.stored p _).1, h.fr.setCell (p := ⟨B, p, none⟩) rfl _⟩
theorem getD_set_ne {l : List Nat} {p j x : Nat} (h : p ≠ j) : (l.set p x).getD j 0 = l.getD j 0 := by
  rw [List.getD_eq_getElem?_getD, List.getElem?_set_ne h, ← List.getD_eq_getElem?_getD]

/-- The places below off + k are done: the product's part is off. -/
structure TakeRel (w : World) (B N off base : Nat) (l X0 : List Nat) (q k cy bw : Nat) (X : List Nat) (wr : World) : Prop where
  o : PartOwn w B N base X0 X wr
  le : k ≤ l.length
  cyl : cy < BB
  bw1 : bw ≤ 1
  above : ∀ j, off + k ≤ j → X.getD j 0 = X0.getD j 0
  sum : val BB (X.take (off + k)) + BB ^ off * (val BB (l.take k) * q) = val BB (X0.take (off + k)) + BB ^ (off + k) * (cy + bw)

theorem TakeRel.step {w wr : World} {B N off base : Nat} {l X0 X : List Nat} {q k cy bw : Nat} (h : TakeRel w B N off base l X0 q k cy bw X wr) (hl : Dig BB l) (hq : q < BB) (hk : k < l.length) (hp : off + k < X0.length) :
    TakeRel w B N off base l X0 q (k + 1) (mHi (l.getD k 0) q + sHi (mLo (l.getD k 0) q) cy) (dHi (X.getD (off + k) 0) (sLo (mLo (l.getD k 0) q) cy) bw)
      (X.set (off + k) (dLo (X.getD (off + k) 0) (sLo (mLo (l.getD k 0) q) cy) bw)) (wr.setCell ⟨B, off + k, none⟩ (L64 (dLo (X.getD (off + k) 0) (sLo (mLo (l.getD k 0) q) cy) bw))) := by
  obtain ⟨t1, t2⟩ := take_one BB_pos (hl.getD BB_pos k) hq h.cyl
  have t3 := d_eq (h.o.dig.getD BB_pos (off + k)) (show sLo (mLo (l.getD k 0) q) cy < BB from Nat.mod_lt _ BB_pos) h.bw1
  refine ⟨h.o.set _ (dLo_lt _ _ _), hk, t1, dHi_le _ _ _, fun j hj => by rw [getD_set_ne (by omega)]; exact h.above j (by omega), ?_⟩
  have hs := h.sum
  have ha := h.above (off + k) (Nat.le_refl _)
  change sLo (mLo (l.getD k 0) q) cy + BB * (mHi (l.getD k 0) q + sHi (mLo (l.getD k 0) q) cy) = _ at t2
  generalize sLo (mLo (l.getD k 0) q) cy = lo at *
  generalize mHi (l.getD k 0) q + sHi (mLo (l.getD k 0) q) cy = cy' at *
  rw [ha] at t3 ⊢
  generalize dLo (X0.getD (off + k) 0) lo bw = dd at *
  generalize dHi (X0.getD (off + k) 0) lo bw = b' at *
  have e1 : cy + bw + dd + l.getD k 0 * q = X0.getD (off + k) 0 + BB * (cy' + b') := by rw [Nat.mul_add]; omega
  have e2 := congrArg (BB ^ (off + k) * ·) e1
  simp only [Nat.mul_add] at e2
  rw [show off + (k + 1) = off + k + 1 by omega, val_set_take BB X _ _ (by rw [h.o.len]; exact hp), val_take_succ, val_take_succ, Nat.pow_succ, Nat.mul_assoc (BB ^ (off + k)), Nat.add_mul, Nat.mul_add (BB ^ off), Nat.mul_add BB]
  have e3 : BB ^ off * (BB ^ k * l.getD k 0 * q) = BB ^ (off + k) * (l.getD k 0 * q) := by rw [Nat.pow_add]; simp only [Nat.mul_assoc]
  rw [e3, Nat.mul_add (BB ^ (off + k))]
  rw [Nat.mul_add] at hs
  omega

/-- One or nought. -/
def b2n (c : Bool) : Nat := if c then 1 else 0
/-- What takeOff leaves. -/
def TakeEnd (w : World) (B N off base : Nat) (l X0 : List Nat) (q : Nat) (c : Bool) (w' : World) : Prop :=
  ∃ X, PartOwn w B N base X0 X w' ∧ (∀ j, off + l.length + 1 ≤ j → X.getD j 0 = X0.getD j 0) ∧
    val BB (X.take (off + l.length + 1)) + BB ^ off * (val BB l * q) = val BB (X0.take (off + l.length + 1)) + BB ^ (off + l.length + 1) * b2n c

theorem TakeRel.fin {w wr : World} {B N off base : Nat} {l X0 X : List Nat} {q cy bw : Nat} (h : TakeRel w B N off base l X0 q l.length cy bw X wr) (hp : off + l.length < X0.length) :
    TakeEnd w B N off base l X0 q (decide (0 < dHi (X.getD (off + l.length) 0) cy bw)) (wr.setCell ⟨B, off + l.length, none⟩ (L64 (dLo (X.getD (off + l.length) 0) cy bw))) := by
  have t3 := d_eq (h.o.dig.getD BB_pos (off + l.length)) h.cyl h.bw1
  have hb := dHi_le (X.getD (off + l.length) 0) cy bw
  refine ⟨_, h.o.set _ (dLo_lt _ _ _), fun j hj => by rw [getD_set_ne (by omega)]; exact h.above j (by omega), ?_⟩
  have hs := h.sum
  have ha := h.above (off + l.length) (Nat.le_refl _)
  rw [ha] at t3 hb ⊢
  have eb : b2n (decide (0 < dHi (X0.getD (off + l.length) 0) cy bw)) = dHi (X0.getD (off + l.length) 0) cy bw := by
    rcases (by omega : dHi (X0.getD (off + l.length) 0) cy bw = 0 ∨ dHi (X0.getD (off + l.length) 0) cy bw = 1) with h0 | h0 <;> rw [h0] <;> rfl
  rw [eb]
  generalize dLo (X0.getD (off + l.length) 0) cy bw = dd at *
  generalize dHi (X0.getD (off + l.length) 0) cy bw = b' at *
  have e2 := congrArg (BB ^ (off + l.length) * ·) t3
  simp only [Nat.mul_add] at e2
  rw [val_set_take BB X _ _ (by rw [h.o.len]; exact hp), val_take_succ BB X0, Nat.pow_succ, Nat.mul_assoc]
  rw [List.take_length, Nat.mul_add] at hs
  omega

set_option maxHeartbeats 800000 in
theorem take_any {w : World} {B N off C base : Nat} {v : Value} {l X0 : List Nat} {q : Nat} (how : w.ownsRow base 33 1 (.slice (some ⟨B, 0, none⟩) N N) N (X0.map L64)) (hl : Rd (fun g => g ≠ B) w v (l.map L64)) (hlen : off + (l.length + 1) ≤ N) (hC : l.length + 1 ≤ C) (hC2 : C ≤ 200000) (hX0 : X0.length = N) (hd : Dig BB l) (hd0 : Dig BB X0) (hq : q < BB) :
    Calls Tryd.prog 60 #[.slice (some ⟨B, off, none⟩) (l.length + 1) C, v, L64 q] w (fun e w' => ∃ c, e = .returned (.bool c) ∧ TakeEnd w B N off base l X0 q c w') := by
  obtain ⟨a, c, rfl, h2, h3, h4, -⟩ := hl.view
  rw [List.length_map] at h2 hl ⊢
  unfold maxLen at h3
  have HL := Lib.hid hl; have HO := Lib.hid how; clear hl how
  go_enter Tryd.func60, Tryd.ntmps60
  go_wp2
  go_loopw [7, 8, 17] (fun cy bw i wr => ∃ (k cy' bw' : Nat) (X : List Nat), i = .int .i64 k ∧ cy = L64 cy' ∧ bw = L64 bw' ∧ TakeRel w B N off base l X0 q k cy' bw' X wr) (fun _ _ i _ => l.length - (intOf i).toNat)
  case atStart =>
    exact ⟨0, 0, 0, X0, rfl, rfl, rfl, ⟨rfl, hd0, HO.out, .refl _ _⟩, Nat.zero_le _, BB_pos, Nat.zero_le _, fun _ _ => rfl, by simp⟩
  case round =>
    obtain ⟨k, cy, bw, X, rfl, rfl, rfl, hR⟩ := hrel
    have HR := Lib.hid hR
    have hXl : X.length = N := by rw [hR.o.len, hX0]
    have hcy := hR.cyl; have hbw := hR.bw1; have hk := hR.le
    have hF := hR.o.fr
    by_cases hkn : k < l.length
    · obtain ⟨a', c', e1, -, -, -, hc⟩ := (HL.out.keep hF (fun g h1 h2 => h1 h2)).view
      injection e1 with e1 e2 e3; subst e1 e3
      obtain ⟨g, of, rfl, hg, -, hcell⟩ := hc k (by simpa using hkn)
      clear hc e2
      rw [List.getElem?_map, List.getElem?_eq_getElem hkn, Option.map_some, Option.getD_some, ← getD_lt hkn] at hcell
      have hca := hR.o.own.cellAt (off + k) (by omega)
      rw [List.getElem?_map, List.getElem?_eq_getElem (by omega), Option.map_some, ← getD_lt] at hca
      have hfr := hR.o.own.frozenAt (off + k)
      have hx := hd.getD BB_pos k
      have hone := (take_one BB_pos hx hq hcy).1
      have HS := Lib.hid (hR.step hd hq hkn (by omega))
      clear hR hF
      generalize l.getD k 0 = x at *
      generalize X.getD (off + k) 0 = o at *
      have h1 : mHi x q + sHi (mLo x q) cy < 18446744073709551616 := hone
      clear hone
      go_wp2_with (first
        | (go_at_call 53; ((with_reducible refine (mul_named hx hq _).mono ?_)); rintro e w1 ⟨rfl, rfl⟩)
        | simp only [run_add0]
        | simp only [run_sub _ _ _ hbw])
      go_round
      case rel => exact ⟨k + 1, _, _, _, by go_num, rfl, rfl, HS.out⟩
      case measure => simp [intOf]; omega
    · have hkl : k = l.length := by omega
      subst hkl
      have hca := hR.o.own.cellAt (off + l.length) (by omega)
      rw [List.getElem?_map, List.getElem?_eq_getElem (by omega), Option.map_some, ← getD_lt] at hca
      have hfr := hR.o.own.frozenAt (off + l.length)
      have HF := Lib.hid (hR.fin (by omega))
      clear hR hF
      generalize X.getD (off + l.length) 0 = o at *
      go_wp2_with (simp only [run_sub _ _ _ hbw])
      go_ret
      exact ⟨_, rfl, HF.out⟩

/-- What math/bits.Add64 hands back, by names. -/
def aLo (x y c : Nat) : Nat := (x + y + c) % BB
def aHi (x y c : Nat) : Nat := (x + y + c) / BB
theorem run_addn (x y c : Nat) (hc : c ≤ 1) (w : World) :
    (callFunc 38 #[.int .u64 x, .int .u64 y, .int .u64 c]).run Tryd.prog w = .ok (.value (.tuple #[.int .u64 (aLo x y c : Nat), .int .u64 (aHi x y c : Nat)])) w := run_add x y c hc w
theorem run_add00 (x c : Nat) (hc : c ≤ 1) (w : World) :
    (callFunc 38 #[.int .u64 x, .int .u64 0, .int .u64 c]).run Tryd.prog w = .ok (.value (.tuple #[.int .u64 (aLo x 0 c : Nat), .int .u64 (aHi x 0 c : Nat)])) w := run_add x 0 c hc w
theorem a_eq (x y c : Nat) : aLo x y c + BB * aHi x y c = x + y + c := Nat.mod_add_div _ _
theorem aHi_le {x y c : Nat} (hx : x < BB) (hy : y < BB) (hc : c ≤ 1) : aHi x y c ≤ 1 := by
  unfold aHi; rw [Nat.div_le_iff_le_mul_add_pred BB_pos]; omega
theorem aLo_lt (x y c : Nat) : aLo x y c < BB := Nat.mod_lt _ BB_pos

/-- The loop's relation in putBack. -/
structure PutRel (w : World) (B N off base : Nat) (l X0 : List Nat) (k cy : Nat) (X : List Nat) (wr : World) : Prop where
  o : PartOwn w B N base X0 X wr
  le : k ≤ l.length
  cyl : cy ≤ 1
  above : ∀ j, off + k ≤ j → X.getD j 0 = X0.getD j 0
  sum : val BB (X.take (off + k)) + BB ^ (off + k) * cy = val BB (X0.take (off + k)) + BB ^ off * val BB (l.take k)

theorem PutRel.step {w wr : World} {B N off base : Nat} {l X0 X : List Nat} {k cy : Nat} (h : PutRel w B N off base l X0 k cy X wr) (hl : Dig BB l) (hk : k < l.length) (hp : off + k < X0.length) :
    PutRel w B N off base l X0 (k + 1) (aHi (X.getD (off + k) 0) (l.getD k 0) cy) (X.set (off + k) (aLo (X.getD (off + k) 0) (l.getD k 0) cy)) (wr.setCell ⟨B, off + k, none⟩ (L64 (aLo (X.getD (off + k) 0) (l.getD k 0) cy))) := by
  have t := a_eq (X.getD (off + k) 0) (l.getD k 0) cy
  refine ⟨h.o.set _ (aLo_lt _ _ _), hk, aHi_le (h.o.dig.getD BB_pos _) (hl.getD BB_pos k) h.cyl, fun j hj => by rw [getD_set_ne (by omega)]; exact h.above j (by omega), ?_⟩
  have hs := h.sum
  have ha := h.above (off + k) (Nat.le_refl _)
  rw [ha] at t ⊢
  generalize aLo (X0.getD (off + k) 0) (l.getD k 0) cy = dd at *
  generalize aHi (X0.getD (off + k) 0) (l.getD k 0) cy = c' at *
  have e2 := congrArg (BB ^ (off + k) * ·) t
  simp only [Nat.mul_add] at e2
  rw [show off + (k + 1) = off + k + 1 by omega, val_set_take BB X _ _ (by rw [h.o.len]; exact hp), val_take_succ, val_take_succ, Nat.pow_succ, Nat.mul_assoc (BB ^ (off + k)), Nat.mul_add (BB ^ off)]
  have e3 : BB ^ off * (BB ^ k * l.getD k 0) = BB ^ (off + k) * l.getD k 0 := by rw [Nat.pow_add]; simp only [Nat.mul_assoc]
  rw [e3]
  omega

/-- What putBack leaves. -/
def PutEnd (w : World) (B N off base : Nat) (l X0 : List Nat) (c : Bool) (w' : World) : Prop :=
  ∃ X, PartOwn w B N base X0 X w' ∧ (∀ j, off + l.length + 1 ≤ j → X.getD j 0 = X0.getD j 0) ∧
    val BB (X.take (off + l.length + 1)) + BB ^ (off + l.length + 1) * b2n c = val BB (X0.take (off + l.length + 1)) + BB ^ off * val BB l

theorem PutRel.fin {w wr : World} {B N off base : Nat} {l X0 X : List Nat} {cy : Nat} (h : PutRel w B N off base l X0 l.length cy X wr) (hp : off + l.length < X0.length) :
    PutEnd w B N off base l X0 (decide (0 < aHi (X.getD (off + l.length) 0) 0 cy)) (wr.setCell ⟨B, off + l.length, none⟩ (L64 (aLo (X.getD (off + l.length) 0) 0 cy))) := by
  have t := a_eq (X.getD (off + l.length) 0) 0 cy
  have hb := aHi_le (h.o.dig.getD BB_pos (off + l.length)) BB_pos h.cyl
  refine ⟨_, h.o.set _ (aLo_lt _ _ _), fun j hj => by rw [getD_set_ne (by omega)]; exact h.above j (by omega), ?_⟩
  have hs := h.sum
  have ha := h.above (off + l.length) (Nat.le_refl _)
  rw [ha] at t hb ⊢
  have eb : b2n (decide (0 < aHi (X0.getD (off + l.length) 0) 0 cy)) = aHi (X0.getD (off + l.length) 0) 0 cy := by
    rcases (by omega : aHi (X0.getD (off + l.length) 0) 0 cy = 0 ∨ aHi (X0.getD (off + l.length) 0) 0 cy = 1) with h0 | h0 <;> rw [h0] <;> rfl
  rw [eb]
  generalize aLo (X0.getD (off + l.length) 0) 0 cy = dd at *
  generalize aHi (X0.getD (off + l.length) 0) 0 cy = c' at *
  have e2 := congrArg (BB ^ (off + l.length) * ·) t
  simp only [Nat.mul_add] at e2
  rw [val_set_take BB X _ _ (by rw [h.o.len]; exact hp), val_take_succ BB X0, Nat.pow_succ, Nat.mul_assoc]
  rw [List.take_length] at hs
  omega

set_option maxHeartbeats 800000 in
theorem put_any {w : World} {B N off C base : Nat} {v : Value} {l X0 : List Nat} (how : w.ownsRow base 33 1 (.slice (some ⟨B, 0, none⟩) N N) N (X0.map L64)) (hl : Rd (fun g => g ≠ B) w v (l.map L64)) (hlen : off + (l.length + 1) ≤ N) (hC : l.length + 1 ≤ C) (hC2 : C ≤ 200000) (hX0 : X0.length = N) (hd : Dig BB l) (hd0 : Dig BB X0) :
    Calls Tryd.prog 61 #[.slice (some ⟨B, off, none⟩) (l.length + 1) C, v] w (fun e w' => ∃ c, e = .returned (.bool c) ∧ PutEnd w B N off base l X0 c w') := by
  obtain ⟨a, c, rfl, h2, h3, h4, -⟩ := hl.view
  rw [List.length_map] at h2 hl ⊢
  unfold maxLen at h3
  have HL := Lib.hid hl; have HO := Lib.hid how; clear hl how
  go_enter Tryd.func61, Tryd.ntmps61
  go_wp2
  go_loopw [5, 11] (fun cy i wr => ∃ (k cy' : Nat) (X : List Nat), i = .int .i64 k ∧ cy = L64 cy' ∧ PutRel w B N off base l X0 k cy' X wr) (fun _ i _ => l.length - (intOf i).toNat)
  case atStart =>
    exact ⟨0, 0, X0, rfl, rfl, ⟨rfl, hd0, HO.out, .refl _ _⟩, Nat.zero_le _, Nat.zero_le _, fun _ _ => rfl, by simp⟩
  case round =>
    obtain ⟨k, cy, X, rfl, rfl, hR⟩ := hrel
    have HR := Lib.hid hR
    have hXl : X.length = N := by rw [hR.o.len, hX0]
    have hcy := hR.cyl; have hk := hR.le
    have hF := hR.o.fr
    by_cases hkn : k < l.length
    · obtain ⟨a', c', e1, -, -, -, hc⟩ := (HL.out.keep hF (fun g h1 h2 => h1 h2)).view
      injection e1 with e1 e2 e3; subst e1 e3
      obtain ⟨g, of, rfl, hg, -, hcell⟩ := hc k (by simpa using hkn)
      clear hc e2
      rw [List.getElem?_map, List.getElem?_eq_getElem hkn, Option.map_some, Option.getD_some, ← getD_lt hkn] at hcell
      have hca := hR.o.own.cellAt (off + k) (by omega)
      rw [List.getElem?_map, List.getElem?_eq_getElem (by omega), Option.map_some, ← getD_lt] at hca
      have hfr := hR.o.own.frozenAt (off + k)
      have HS := Lib.hid (hR.step hd hkn (by omega))
      clear hR hF
      generalize l.getD k 0 = x at *
      generalize X.getD (off + k) 0 = o at *
      go_wp2_with (simp only [run_addn _ _ _ hcy])
      go_round
      case rel => exact ⟨k + 1, _, _, by go_num, rfl, HS.out⟩
      case measure => simp [intOf]; omega
    · have hkl : k = l.length := by omega
      subst hkl
      have hca := hR.o.own.cellAt (off + l.length) (by omega)
      rw [List.getElem?_map, List.getElem?_eq_getElem (by omega), Option.map_some, ← getD_lt] at hca
      have hfr := hR.o.own.frozenAt (off + l.length)
      have HF := Lib.hid (hR.fin (by omega))
      clear hR hF
      generalize X.getD (off + l.length) 0 = o at *
      go_wp2_with (simp only [run_add00 _ _ hcy])
      go_ret
      exact ⟨_, rfl, HF.out⟩
end Go.Proofs.YtnoelffaccekjaaDoor
