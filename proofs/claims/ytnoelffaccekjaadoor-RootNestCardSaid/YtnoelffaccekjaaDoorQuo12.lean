/- quo.long's walk, prepared: rows of the call's own read in part, and what the walk holds at its cuts. Conditions: the limbs are limbs. -/
import Derived.Test.YtnoelffaccekjaaDoorQuo11
namespace Go.Proofs.YtnoelffaccekjaaDoor
open Go.RowKit

theorem own_fr_at {S : Nat → Prop} {w w' : World} {base : Nat} {e : TypeId} {size : Nat} {B k c n : Nat} {xs : List Value} (h : w.ownsRow base e size (.slice (some ⟨B, 0, none⟩) k c) n xs) (hf : Fr S w w') (hs : ¬ S B) : w'.ownsRow base e size (.slice (some ⟨B, 0, none⟩) k c) n xs := by
  refine ⟨h.1, ?_⟩
  rcases h.2 with ⟨h, -⟩ | ⟨g, cap, cur, h1, h2, h3, h4⟩
  · cases h
  · have e : B = g := by injection h1 with h1; injection h1 with h1; injection h1
    subst e
    exact .inr ⟨B, cap, cur, h1, h2, hf.at h3 hs, h4⟩

theorem getElem_map_L {X : List Nat} {j : Nat} {u : Value} (h : (X.map L64)[j]? = some u) : j < X.length ∧ u = L64 (X.getD j 0) := by
  rw [List.getElem?_map] at h
  by_cases hj : j < X.length
  · rw [List.getElem?_eq_getElem hj] at h
    rw [getD_lt hj]
    exact ⟨hj, by injection h with h; exact h.symm⟩
  · rw [List.getElem?_eq_none (by omega)] at h; cases h

/-- A part of a row of the call's own reads as the part of its list. -/
theorem rd_part {w : World} {base : Nat} {e : TypeId} {B c n : Nat} {X : List Nat} (h : w.ownsRow base e 1 (.slice (some ⟨B, 0, none⟩) n c) n (X.map L64)) (off m C : Nat) (hm : off + m ≤ n) (hC : m ≤ C) (hC2 : C ≤ maxLen) :
    Rd (fun g => g = B) w (.slice (some ⟨B, off, none⟩) m C) (((X.drop off).take m).map L64) := by
  have hl : X.length = n := by simpa using h.1
  have hlen : ((X.drop off).take m).length = m := by rw [List.length_take, List.length_drop]; omega
  refine ⟨some ⟨B, off, none⟩, C, by rw [List.length_map, hlen], by rw [List.length_map, hlen]; exact hC, hC2, (fun h => by cases h), fun j u hj => ⟨B, off, rfl, rfl, ?_⟩⟩
  obtain ⟨h1, rfl⟩ := getElem_map_L hj
  rw [hlen] at h1
  have e : ((X.drop off).take m).getD j 0 = X.getD (off + j) 0 := by
    rw [List.getD_eq_getElem?_getD, List.getElem?_take, if_pos h1, List.getElem?_drop, ← List.getD_eq_getElem?_getD]
  rw [e]
  have hc := h.cellAt (off + j) (by omega)
  have hjX : off + j < X.length := by omega
  rw [List.getElem?_map, List.getElem?_eq_getElem hjX, Option.map_some, ← getD_lt hjX] at hc
  exact hc

theorem rd_cell {N : Nat → Prop} {w : World} {B off k c : Nat} {X : List Nat} (h : Rd N w (.slice (some ⟨B, off, none⟩) k c) (X.map L64)) {j : Nat} (hj : j < X.length) : w.cell? ⟨B, off + j, none⟩ = some (L64 (X.getD j 0)) := by
  obtain ⟨a, c', e1, -, -, -, h5⟩ := h
  obtain ⟨g, off', e2, -, e3⟩ := h5 j (L64 (X.getD j 0)) (by rw [List.getElem?_map, List.getElem?_eq_getElem hj, Option.map_some, getD_lt hj])
  injection e1 with e1
  rw [e2] at e1
  injection e1 with e1
  injection e1 with e1 e4
  subst e1 e4
  exact e3

/-- Equal above, and nothing above: all is below. -/
theorem val_upper {X U : List Nat} {k : Nat} (hlen : X.length = U.length) (ha : ∀ j, k ≤ j → X.getD j 0 = U.getD j 0) (hU : val BB (U.take k) = val BB U) : val BB X = val BB (X.take k) := by
  have e : X.drop k = U.drop k := by
    apply List.ext_getElem (by rw [List.length_drop, List.length_drop, hlen])
    intro i h1 h2
    rw [List.getElem_drop, List.getElem_drop]
    have := ha (k + i) (by omega)
    rw [List.length_drop] at h1 h2
    rwa [getD_lt (by omega), getD_lt (by omega)] at this
  have e1 := val_take_drop' BB X k
  have e2 := val_take_drop' BB U k
  rw [hU] at e2
  rw [e] at e1
  omega

theorem guess_up2 {P V : List Nat} {n g : Nat} (hn : 2 ≤ n) (hP : P.length = n + 1) (hV : V.length = n) (hdP : Dig BB P) (h : val BB P < val BB V * BB) (hg : Guessed P (V.getD (n - 1) 0) (V.getD (n - 2) 0) g) : val BB P < (g + 1) * val BB V := by
  obtain ⟨k, rfl⟩ : ∃ k, n = k + 2 := ⟨n - 2, by omega⟩
  exact guess_up hP hV hdP h hg

/-- Both shifted. -/
structure Shifted (w : World) (l m : List Nat) (s : Nat) (BU BV : Nat) (U V : List Nat) (wx : World) : Prop where
  bu : w.heap.size ≤ BU
  bul : BU < wx.heap.size
  bvl : BV < wx.heap.size
  ne : BU ≠ BV
  ulen : U.length = l.length + 1
  udig : Dig BB U
  uval : val BB U = val BB l * 2 ^ s
  vlen : V.length = m.length + 1
  vdig : Dig BB V
  vval : val BB V = val BB m * 2 ^ s
  uown : wx.ownsRow w.heap.size 33 1 (.slice (some ⟨BU, 0, none⟩) (l.length + 1) (l.length + 1)) (l.length + 1) (U.map L64)
  vown : wx.ownsRow w.heap.size 33 1 (.slice (some ⟨BV, 0, none⟩) (m.length + 1) (m.length + 1)) (m.length + 1) (V.map L64)
  below : Below w.heap.size w wx

theorem own_lt {w : World} {base : Nat} {e : TypeId} {size : Nat} {B k c n : Nat} {xs : List Value} (h : w.ownsRow base e size (.slice (some ⟨B, 0, none⟩) k c) n xs) : B < w.heap.size := by
  rcases h.2 with ⟨h, -⟩ | ⟨g, cap, cur, h1, h2, h3, h4⟩
  · cases h
  · have e : B = g := by injection h1 with h1; injection h1 with h1; injection h1
    subst e
    rcases Nat.lt_or_ge B w.heap.size with h | h
    · exact h
    · simp [Array.getElem?_eq_none h] at h3
theorem own_base {w : World} {base base' : Nat} {e : TypeId} {size : Nat} {B k c n : Nat} {xs : List Value} (h : w.ownsRow base e size (.slice (some ⟨B, 0, none⟩) k c) n xs) (hb : base' ≤ B) : w.ownsRow base' e size (.slice (some ⟨B, 0, none⟩) k c) n xs := by
  refine ⟨h.1, ?_⟩
  rcases h.2 with ⟨h, -⟩ | ⟨g, cap, cur, h1, h2, h3, h4⟩
  · cases h
  · have e : B = g := by injection h1 with h1; injection h1 with h1; injection h1
    subst e
    exact .inr ⟨B, cap, cur, h1, hb, h3, h4⟩

/-- Left's row, wherever it is. -/
theorem own_below {w w' : World} {base : Nat} {e : TypeId} {size : Nat} {B k c n : Nat} {xs : List Value} (h : w.ownsRow base e size (.slice (some ⟨B, 0, none⟩) k c) n xs) (hb : Below w.heap.size w w') : w'.ownsRow base e size (.slice (some ⟨B, 0, none⟩) k c) n xs :=
  own_fr_at (S := fun _ => False) h (Fr.of_below hb) (fun h => h)
theorem Shifted.mk1 {w w1 w2 : World} {l m : List Nat} {s : Nat} {U V : List Nat} (hU : U.length = l.length + 1 ∧ Dig BB U ∧ val BB U = val BB l * 2 ^ s ∧
    w1.ownsRow w.heap.size 33 1 (.slice (some ⟨w.heap.size, 0, none⟩) (l.length + 1) (l.length + 1)) (l.length + 1) (U.map L64) ∧ Below w.heap.size w w1)
    (hV : V.length = m.length + 1 ∧ Dig BB V ∧ val BB V = val BB m * 2 ^ s ∧
    w2.ownsRow w1.heap.size 33 1 (.slice (some ⟨w1.heap.size, 0, none⟩) (m.length + 1) (m.length + 1)) (m.length + 1) (V.map L64) ∧ Below w1.heap.size w1 w2) :
    Shifted w l m s w.heap.size w1.heap.size U V w2 :=
  ⟨Nat.le_refl _, Nat.lt_of_lt_of_le (own_lt hU.2.2.2.1) hV.2.2.2.2.size, own_lt hV.2.2.2.1, Nat.ne_of_lt (own_lt hU.2.2.2.1), hU.1, hU.2.1, hU.2.2.1, hV.1, hV.2.1, hV.2.2.1, own_below hU.2.2.2.1 hV.2.2.2.2, own_base hV.2.2.2.1 hU.2.2.2.2.size,
   hU.2.2.2.2.trans (hV.2.2.2.2.mono hU.2.2.2.2.size)⟩
theorem Shifted.mk2 {w w1 w2 : World} {l m : List Nat} {s : Nat} {U V : List Nat} (hV : V.length = m.length + 1 ∧ Dig BB V ∧ val BB V = val BB m * 2 ^ s ∧
    w1.ownsRow w.heap.size 33 1 (.slice (some ⟨w.heap.size, 0, none⟩) (m.length + 1) (m.length + 1)) (m.length + 1) (V.map L64) ∧ Below w.heap.size w w1)
    (hU : U.length = l.length + 1 ∧ Dig BB U ∧ val BB U = val BB l * 2 ^ s ∧
    w2.ownsRow w1.heap.size 33 1 (.slice (some ⟨w1.heap.size, 0, none⟩) (l.length + 1) (l.length + 1)) (l.length + 1) (U.map L64) ∧ Below w1.heap.size w1 w2) :
    Shifted w l m s w1.heap.size w.heap.size U V w2 :=
  ⟨hV.2.2.2.2.size, own_lt hU.2.2.2.1, Nat.lt_of_lt_of_le (own_lt hV.2.2.2.1) hU.2.2.2.2.size, Nat.ne_of_gt (own_lt hV.2.2.2.1), hU.1, hU.2.1, hU.2.2.1, hV.1, hV.2.1, hV.2.2.1, own_base hU.2.2.2.1 hV.2.2.2.2.size, own_below hV.2.2.2.1 hU.2.2.2.2,
   hV.2.2.2.2.trans (hU.2.2.2.2.mono hV.2.2.2.2.size)⟩
theorem Shifted.drewN {w wx : World} {l m : List Nat} {s BU BV : Nat} {U V : List Nat} (h : Shifted w l m s BU BV U V wx) (n : Nat) : Shifted w l m s BU BV U V (wx.drewN n) :=
  ⟨h.bu, h.bul, h.bvl, h.ne, h.ulen, h.udig, h.uval, h.vlen, h.vdig, h.vval, h.uown, h.vown, below_drewN h.below n⟩

/-- The divisor without its topmost nought: as long as it was, and its top limb's top bit is set. -/
theorem Shifted.divisor {w wx : World} {l m : List Nat} {s BU BV : Nat} {U V : List Nat} (h : Shifted w l m s BU BV U V wx) (hdm : Dig BB m) (h2 : 2 ≤ m.length) (hY1 : 9223372036854775808 ≤ m.getD (m.length - 1) 0 * 2 ^ s) (hY2 : m.getD (m.length - 1) 0 * 2 ^ s < 18446744073709551616) :
    val BB (V.take m.length) = val BB m * 2 ^ s ∧ val BB m * 2 ^ s < BB ^ m.length ∧ 9223372036854775808 ≤ V.getD (m.length - 1) 0 := by
  obtain ⟨n, hn⟩ : ∃ n, m.length = n + 1 := ⟨m.length - 1, by omega⟩
  have hvlen := h.vlen
  have e1 := val_top1 (B := BB) hn
  rw [hn] at hvlen
  rw [hn, Nat.add_sub_cancel] at hY1 hY2 ⊢
  have hlow := val_lt (hdm.take n)
  rw [List.length_take, hn, Nat.min_eq_left (by omega)] at hlow
  have hP : 0 < 2 ^ s := Nat.pow_pos (by omega)
  have hBB : BB = 18446744073709551616 := rfl
  have hlt : val BB m * 2 ^ s < BB ^ (n + 1) := by
    obtain ⟨k, hk⟩ : ∃ k, BB = k * 2 ^ s := by
      have hs : s ≤ 64 := by
        rcases Nat.lt_or_ge 64 s with h | h
        · have := Nat.pow_le_pow_right (n := 2) (by omega) h
          have h0 : 1 ≤ m.getD n 0 := by
            rcases Nat.eq_zero_or_pos (m.getD n 0) with h | h
            · rw [h] at hY1; omega
            · exact h
          have := Nat.mul_le_mul h0 this
          omega
        · exact h
      refine ⟨2 ^ (64 - s), ?_⟩
      rw [← Nat.pow_add, show 64 - s + s = 64 by omega, BB_pow]
    have h3 : m.getD n 0 + 1 ≤ k := by
      have h4 : m.getD n 0 * 2 ^ s < k * 2 ^ s := by rw [← hk, hBB]; exact hY2
      exact Nat.lt_of_mul_lt_mul_right h4
    have h5 : val BB m + 1 ≤ BB ^ n * (m.getD n 0 + 1) := by rw [Nat.mul_add]; omega
    have h6 := Nat.le_trans h5 (Nat.mul_le_mul_left (BB ^ n) h3)
    have h7 := Nat.mul_le_mul_right (2 ^ s) h6
    rw [Nat.mul_assoc, ← hk, ← Nat.pow_succ, Nat.add_mul] at h7
    exact Nat.lt_of_lt_of_le (by omega) h7
  have e2 := val_top1 (B := BB) (n := n + 1) hvlen
  rw [h.vval] at e2
  have hz : V.getD (n + 1) 0 = 0 := by
    rcases Nat.eq_zero_or_pos (V.getD (n + 1) 0) with h | h
    · exact h
    · have := Nat.mul_le_mul_left (BB ^ (n + 1)) h
      omega
  rw [hz, Nat.mul_zero, Nat.add_zero] at e2
  refine ⟨e2.symm, hlt, ?_⟩
  have e3 := val_take_succ BB V n
  rw [← e2, e1] at e3
  have hlv := val_lt (h.vdig.take n)
  rw [List.length_take, hvlen, Nat.min_eq_left (by omega)] at hlv
  -- BB^n * (top m * 2^s) ≤ val m * 2^s < BB^n * (V n + 1)
  rw [Nat.add_mul, Nat.mul_assoc] at e3
  have h8 : BB ^ n * (m.getD n 0 * 2 ^ s) < BB ^ n * (V.getD n 0 + 1) := by rw [Nat.mul_add]; omega
  have := Nat.lt_of_mul_lt_mul_left h8
  omega

theorem getD_take_lt {X : List Nat} {j k : Nat} (h : j < k) : (X.take k).getD j 0 = X.getD j 0 := by
  rw [List.getD_eq_getElem?_getD, List.getElem?_take, if_pos h, ← List.getD_eq_getElem?_getD]

/-- The outer loop begins. -/
theorem Shifted.start {w wx : World} {l m : List Nat} {s BU BV : Nat} {U V : List Nat} (h : Shifted w l m s BU BV U V wx) (hdl : Dig BB l) (h2 : 2 ≤ m.length) (h3 : m.length ≤ l.length) (h4 : m.getD (m.length - 1) 0 ≠ 0) :
    LongRel (val BB l * 2 ^ s) (val BB m * 2 ^ s) m.length (l.length - m.length + 1) (l.length - m.length + 1) U (List.replicate (l.length - m.length + 1) 0) := by
  refine ⟨by rw [h.ulen]; omega, h.udig, by simp, Dig.replicate BB_pos _, Nat.le_refl _, ?_, ?_⟩
  · rw [List.drop_eq_nil_of_le (by simp), val_nil, Nat.mul_zero, Nat.mul_zero, Nat.add_zero, h.uval]
  · rw [h.uval, Nat.mul_right_comm]
    refine Nat.mul_lt_mul_of_pos_right ?_ (Nat.pow_pos (by omega))
    have e1 := val_top1 (B := BB) (P := m) (n := m.length - 1) (by omega)
    have hl := val_lt hdl
    have h5 : BB ^ (m.length - 1) ≤ val BB m := by
      have := Nat.mul_le_mul_left (BB ^ (m.length - 1)) (Nat.pos_of_ne_zero h4)
      omega
    have h6 := Nat.mul_le_mul_right (BB ^ (l.length - m.length + 1)) h5
    rw [← Nat.pow_add, show m.length - 1 + (l.length - m.length + 1) = l.length by omega] at h6
    omega
end Go.Proofs.YtnoelffaccekjaaDoor
