/- The document's numbers (digits to the base 65536): Norm, To, Num by their contracts. Conditions: the lists are short, the digits are digits. -/
import Derived.Test.YtflkemcoomgoiaaDoorNatB
import Derived.BigQuiet
import Derived.Deep.QuietTactic
import Derived.StillTailTactics
import Derived.ProofKit
namespace Go.Proofs.YtflkemcoomgoiaaDoor
set_option maxRecDepth 100000
open Go.RowKit

/-- A digit as a value. -/
abbrev D32 (x : Nat) : Value := .int .u32 (x : Int)
/-- The document's base. -/
def DD : Nat := 65536
theorem DD_two : 2 ≤ DD := by decide
theorem DD_pos : 0 < DD := by decide
theorem DD_pow : DD = 2 ^ 16 := by decide
/-- A slice of digits that reads as a list. -/
def RdD (w : World) (v : Value) (l : List Nat) : Prop := Rd (fun _ => True) w v (l.map D32)
theorem RdD.below {w w' : World} {v : Value} {l : List Nat} (h : RdD w v l) (hb : Below w.heap.size w w') : RdD w' v l := Rd.below h hb
theorem RdD.view {w : World} {v : Value} {l : List Nat} (h : RdD w v l) : ∃ a c, v = .slice a l.length c ∧ l.length ≤ c ∧ c ≤ 9223372036854775807 ∧ (a = none → c = 0) ∧ ∀ j, j < l.length → ∃ g off, a = some ⟨g, off, none⟩ ∧ g < w.heap.size ∧ w.cell? ⟨g, off + j, none⟩ = some (D32 (l[j]?.getD 0)) := by
  obtain ⟨a, c, h1, h2, h3, h4, h5⟩ := Rd.view h
  rw [List.length_map] at h1 h2 h5
  refine ⟨a, c, h1, h2, by unfold maxLen at h3; omega, h4, fun j hj => ?_⟩
  obtain ⟨g, off, e1, _, e2, e3⟩ := h5 j hj
  exact ⟨g, off, e1, e2, by rw [e3, List.getElem?_map, List.getElem?_eq_getElem hj]; rfl⟩
theorem infoD : (Tryd.prog.info? 33).map (fun i => (i.zero, i.size, i.bytes)) = some (some (.int .u32 0), 1, 4) := by kernel_rfl
theorem RdD.nil (w : World) : RdD w (.slice none 0 0) [] := Rd.nil _ _
theorem RdD.nil0 (w : World) : RdD w (.slice none 0 0) (digs DD 0) := by rw [digs_zero]; exact Rd.nil _ _

/-- What a function that hands back one list of digits leaves. -/
def OneD (w : World) (l : List Nat) (e : Ending) (w' : World) : Prop := ∃ v, e = .returned v ∧ RdD w' v l ∧ Below w.heap.size w w'

theorem one32 (l : List Nat) : ∀ u ∈ l.map D32, u.oneCell' = true := by
  intro u hu
  obtain ⟨x, -, rfl⟩ := List.mem_map.1 hu
  rfl

theorem rdD_take {w : World} {a : Option Addr} {n c k : Nat} {l : List Nat} (h : RdD w (.slice a n c) l) (hk : k ≤ l.length) : RdD w (.slice a k c) (l.take k) := by
  obtain ⟨a', c', e, h2, h3, h4, h5⟩ := h
  rw [List.length_map] at e h2
  simp only [Value.slice.injEq] at e
  obtain ⟨rfl, rfl, rfl⟩ := e
  refine ⟨a, c, by rw [List.length_map, List.length_take, Nat.min_eq_left hk], by rw [List.length_map, List.length_take]; omega, h3, h4, fun j u hj => ?_⟩
  have hjk : j < k := by
    have := (List.getElem?_eq_some_iff.1 hj).1
    rw [List.length_map, List.length_take] at this; omega
  rw [List.getElem?_map, List.getElem?_take_of_lt hjk, ← List.getElem?_map] at hj
  exact h5 j u hj

theorem bare_fin {l : List Nat} {k : Nat} (hk : k ≤ l.length) (hz : ∀ j, k ≤ j → l.getD j 0 = 0) (hor : k = 0 ∨ l.getD (k - 1) 0 ≠ 0) : l.take k = strip l := by
  rw [← strip_take l k hz]
  refine (strip_self _ ?_).symm
  rcases hor with rfl | hne
  · exact .inl rfl
  · by_cases hk0 : k = 0
    · subst hk0; exact .inl rfl
    · refine .inr ?_
      rw [List.length_take, Nat.min_eq_left hk]
      simpa [List.getD_eq_getElem?_getD, List.getElem?_take_of_lt (show k - 1 < k by omega)] using hne

set_option maxHeartbeats 400000 in
theorem norm_any {w : World} {v : Value} {l : List Nat} (h : RdD w v l) (hl : l.length ≤ 1000000) :
    Calls Tryd.prog 43 #[v] w (OneD w (strip l)) := by
  obtain ⟨i0, hi, hz0, hz1, hz2⟩ := info_parts infoD
  obtain ⟨a, c, rfl, h2, h3, h4, hc⟩ := h.view
  have H := Lib.hid h; have HC := Lib.hid hc; clear h hc
  go_enter Tryd.func43, Tryd.ntmps43
  go_wp2
  go_loop [3] (fun n => ∃ k : Nat, n = .int .i64 k ∧ BareRel l k) (fun n => (intOf n).toNat)
  case atStart => exact ⟨l.length, rfl, Nat.le_refl _, fun j hj => by simp [List.getElem?_eq_none hj]⟩
  case round =>
    obtain ⟨k, rfl, hk, hz⟩ := hrel
    have HZ := Lib.hid hz
    have FIN := Lib.hid (bare_fin hk hz); clear hz
    have hKL : (l.take k).length = k := by rw [List.length_take]; omega
    have RT := Lib.hid (rdD_take H.out hk)
    by_cases hk0 : k = 0
    · have E := FIN.out (.inl hk0)
      subst hk0
      have d0 : decide ((0 : Int) < ((0 : Nat) : Int)) = false := by simp
      go_wp2_with (at_builtin; refine wpList_append_rd (N := fun _ => True) (xs := []) (ys := (l.take 0).map D32) (n := 0) rfl (.tmp 18) (.tmp 21) 29 rfl w.heap.size 33 i0 (.int .u32 0) 4 Tryd.underlying29 hi hz0 hz1 hz2 rfl rfl rfl (own_zero (heap_alloc_new _ _) (Nat.le_refl _)) (RT.out.keep (S := fun _ => False) ((Fr.refl _ _).alloc _) (fun _ _ h => h)) (one32 _) (by rw [List.length_map, hKL]; unfold maxLen; omega) (by rw [List.length_map, hKL]; omega) (by simp) ?_; intro v1 w1 own1 hg1)
      go_ret
      exact ⟨_, rfl, by rw [← E]; exact Rd.of_own own1 (fun _ _ => trivial), ((Below.refl _ _).alloc (Nat.le_refl _) _).grown hg1 (by simp) (fun k hk => by simp [Value.ownBlock, Act.eval] at hk; omega)⟩
    · have d0 : decide ((0 : Int) < (k : Int)) = true := decide_eq_true (by omega)
      obtain ⟨g, off, rfl, hg, hcell⟩ := HC.out (k - 1) (by omega)
      have hcell' : w.cell? ⟨g, off + (k - 1), none⟩ = some (D32 (l.getD (k - 1) 0)) := by rw [hcell, List.getD_eq_getElem?_getD]
      clear hcell
      generalize hx : l.getD (k - 1) 0 = x at hcell'
      have HX := Lib.hid hx; clear hx
      by_cases hx0 : x = 0
      · subst hx0
        go_wp2_with fail
        go_round
        case rel => exact ⟨k - 1, by go_num, by omega, fun j hj => by
          by_cases hjk : j = k - 1
          · rw [hjk]; exact HX.out
          · exact HZ.out j (by omega)⟩
        case measure => simp [intOf]; omega
      · have dx : ((x : Int) == 0) = false := by simp; omega
        go_wp2_with (at_builtin; refine wpList_append_rd (N := fun _ => True) (xs := []) (ys := (l.take k).map D32) (n := 0) rfl (.tmp 18) (.tmp 21) 29 rfl w.heap.size 33 i0 (.int .u32 0) 4 Tryd.underlying29 hi hz0 hz1 hz2 rfl rfl rfl (own_zero (heap_alloc_new _ _) (Nat.le_refl _)) (RT.out.keep (S := fun _ => False) ((Fr.refl _ _).alloc _) (fun _ _ h => h)) (one32 _) (by rw [List.length_map, hKL]; unfold maxLen; omega) (by rw [List.length_map, hKL]; omega) (by simp) ?_; intro v1 w1 own1 hg1)
        go_ret
        exact ⟨_, rfl, by rw [← FIN.out (.inr (by rw [HX.out]; exact hx0))]; exact Rd.of_own own1 (fun _ _ => trivial), ((Below.refl _ _).alloc (Nat.le_refl _) _).grown hg1 (by simp) (fun k hk => by simp [Value.ownBlock, Act.eval] at hk; omega)⟩

theorem BB_DD : BB = DD ^ 4 := by decide

/-- What stands in To's row. -/
structure ToOwn (w : World) (X : List Nat) (v : Value) (wr : World) : Prop where
  dig : Dig DD X
  own : wr.ownsRow w.heap.size 33 1 v X.length (X.map D32)
  below : Below w.heap.size w wr
/-- The outer loop's relation: k limbs are done. -/
structure ToOut (w : World) (l : List Nat) (k : Nat) (X : List Nat) (v : Value) (wr : World) : Prop extends ToOwn w X v wr where
  le : k ≤ l.length
  len : X.length = 4 * k
  sum : val DD X = val BB (l.take k)
/-- The inner loop's relation: j digits of the next limb are done, x is what is left of it. -/
structure ToIn (w : World) (l : List Nat) (k j x : Nat) (X : List Nat) (v : Value) (wr : World) : Prop extends ToOwn w X v wr where
  le : j ≤ 4
  len : X.length = 4 * k + j
  small : x < DD ^ (4 - j)
  sum : val DD X + DD ^ (4 * k + j) * x = val BB (l.take (k + 1))

theorem ToOut.start {w wr : World} {l : List Nat} {k : Nat} {X : List Nat} {v : Value} (h : ToOut w l k X v wr) (hd : Dig BB l) : ToIn w l k 0 (l.getD k 0) X v wr :=
  ⟨h.toToOwn, by omega, h.len, by have := hd.getD BB_pos k; rw [BB_DD] at this; exact this, by
    rw [h.sum, val_take_succ, Nat.add_zero, Nat.pow_mul, ← BB_DD]⟩
theorem ToIn.step {w wr wr' : World} {l : List Nat} {k j x : Nat} {X : List Nat} {v v' : Value} (h : ToIn w l k j x X v wr) (hj : j < 4)
    (ho : wr'.ownsRow w.heap.size 33 1 v' (X.length + 1) (X.map D32 ++ [D32 (x % DD)])) (hb : Below w.heap.size w wr') : ToIn w l k (j + 1) (x / DD) (X ++ [x % DD]) v' wr' :=
  ⟨⟨h.dig.append (Dig.cons (Nat.mod_lt _ DD_pos) (Dig.nil _)), by rw [List.length_append, List.map_append]; exact ho, hb⟩, hj, by rw [List.length_append, h.len]; rfl, by
    have := h.small
    rw [show 4 - j = 4 - (j + 1) + 1 by omega, Nat.pow_succ] at this
    exact (Nat.div_lt_iff_lt_mul DD_pos).2 this, by
    rw [← h.sum, val_append, val_one, h.len, ← Nat.add_assoc (4 * k), Nat.pow_succ, Nat.mul_assoc, Nat.add_assoc, ← Nat.mul_add, Nat.mod_add_div]⟩
theorem ToIn.bound {w wr : World} {l : List Nat} {k j x : Nat} {X : List Nat} {v : Value} (h : ToIn w l k j x X v wr) : x < BB := by
  rw [BB_DD]; exact Nat.lt_of_lt_of_le h.small (Nat.pow_le_pow_right DD_pos (by omega))
theorem ToIn.fin {w wr : World} {l : List Nat} {k x : Nat} {X : List Nat} {v : Value} (h : ToIn w l k 4 x X v wr) (hk : k < l.length) : ToOut w l (k + 1) X v wr :=
  ⟨h.toToOwn, hk, by rw [h.len]; omega, by
    have h1 : x < DD ^ 0 := h.small
    have h2 : x = 0 := by rw [Nat.pow_zero] at h1; omega
    rw [← h.sum, h2, Nat.mul_zero, Nat.add_zero]⟩

set_option maxHeartbeats 400000 in
theorem to_any {w : World} {v : Value} {l : List Nat} (h : RdN w v l) (hd : Dig BB l) (hl : l.length ≤ 100000) :
    Calls Tryd.prog 19 #[v] w (OneD w (digs DD (val BB l))) := by
  obtain ⟨i0, hi, hz0, hz1, hz2⟩ := info_parts infoD
  obtain ⟨a, c, rfl, h2, h3, h4, hc⟩ := h.view
  have H := Lib.hid h; clear h hc
  go_enter Tryd.func19, Tryd.ntmps19
  go_wp2
  go_loopw [3, 4] (fun v i wr => ∃ (k : Nat) (X : List Nat), i = .int .i64 k ∧ ToOut w l k X v wr) (fun _ i _ => l.length - (intOf i).toNat)
  case atStart => exact ⟨0, [], rfl, ⟨Dig.nil _, World.ownsRow_nil _ _ _ _, Below.refl _ _⟩, Nat.zero_le _, rfl, rfl⟩
  case round =>
    obtain ⟨k, X, rfl, hO⟩ := hrel
    have HO := Lib.hid hO
    have hk := hO.le
    by_cases hkn : k < l.length
    · have HI := Lib.hid (hO.start hd)
      obtain ⟨a', c', e1, -, -, -, hcell⟩ := (H.out.below hO.below).view
      injection e1 with e1 e2 e3; subst e1 e3
      obtain ⟨g, of, rfl, hg, hcell⟩ := hcell k hkn
      rw [← List.getD_eq_getElem?_getD] at hcell
      generalize l.getD k 0 = x at hcell HI
      clear hO e2
      go_wp2
      go_loopw [3, 5, 6] (fun v x i wr => ∃ (j x' : Nat) (X : List Nat), i = .int .i64 j ∧ x = L64 x' ∧ ToIn w l k j x' X v wr) (fun _ _ i _ => 4 - (intOf i).toNat)
      case atStart => exact ⟨0, x, X, rfl, rfl, HI.out⟩
      case round =>
        clear HO HI
        obtain ⟨j, y, X, rfl, rfl, hI⟩ := hrel
        have HI := Lib.hid hI
        have hj := hI.le
        by_cases hj4 : j < 4
        · have hown := hI.own
          have hXl := hI.len
          clear hI
          have hB := HI.out.below
          have hsz := hB.size
          have hy : y < 18446744073709551616 := HI.out.bound
          go_wp2_with (at_builtin; go_loud (refine wpList_append_own _ rfl _ _ 29 rfl w.heap.size 33 i0 (.int .u32 0) 1 4 Tryd.underlying29 hi hz0 hz1 hz2 rfl (by decide) _ _ _ rfl (hown.alloc _) ⟨wr.heap.size, 0, none⟩ 1 1 [.int .u32 ((y : Int) % 65536)] rfl rfl (cell_one_new _ _ _) (by simp [Value.oneCell']) ?_ ?_ ?_ ?_; (focus (unfold maxLen; omega)); (focus omega); (focus (simp; omega)); intro v2 w2 hown2 hg2 _; have HR := Lib.hid (HI.out.step hj4 (by rw [D32, DD, Int.natCast_emod]; exact hown2) ((hB.alloc hB.size _).grown hg2 (by simp; omega) (fun k hk => (hown.lt k hk).1))); clear hown2 hg2))
          go_round
          case rel => exact ⟨j + 1, y / DD, _, by go_num, by simp [DD, L64], HR.out⟩
          case measure => simp [intOf]; omega
        · obtain rfl : j = 4 := by omega
          have HF := Lib.hid (hI.fin hkn)
          clear hI
          go_wp2
          go_round
          case rel => exact ⟨k + 1, X, by go_num, HF.out⟩
          case measure => simp [intOf]; omega
    · have hkl : k = l.length := by omega
      have E : strip X = digs DD (val BB l) := by rw [strip_eq DD_two hO.dig, hO.sum, hkl, List.take_length]
      have RX : RdD _ _ X := Rd.of_own hO.own (fun _ _ => trivial)
      have hB := hO.below
      have hX := hO.len
      clear hO
      go_wp2_with (go_at_call 43; (with_reducible refine (norm_any RX ?_).mono ?_); (focus omega); rintro e w3 ⟨v3, rfl, hr, hb3⟩)
      go_ret
      rw [E] at hr
      exact ⟨_, rfl, hr, hB.trans (hb3.mono hB.size)⟩
end Go.Proofs.YtflkemcoomgoiaaDoor

/- The document's numbers: Num, Bits, Same, Add, Of by their contracts. Conditions: the lists are short, the digits are digits. -/
namespace Go.Proofs.YtflkemcoomgoiaaDoor
set_option maxRecDepth 100000
open Go.RowKit

theorem strip_full : ∀ l : List Nat, (strip l).length = l.length → strip l = l
  | [], _ => rfl
  | x :: l, h => by
    unfold strip at h ⊢
    split at h
    · simp at h
    · rename_i hc
      rw [if_neg hc, strip_full l (by simpa using h)]

theorem full_digs {B : Nat} (hB : 2 ≤ B) {X : List Nat} (hd : Dig B X) (hlow : X.length = 0 ∨ B ^ (X.length - 1) ≤ val B X) : X = digs B (val B X) := by
  have e := strip_eq hB hd
  have h1 := strip_length_le X
  rw [← e]
  refine (strip_full X ?_).symm
  rcases hlow with h | h
  · omega
  · have : ¬ (digs B (val B X)).length ≤ X.length - 1 := by rw [digs_length_le hB]; omega
    rw [← e] at this; omega

theorem digs_low {B : Nat} (hB : 2 ≤ B) (n k : Nat) (h : k < (digs B n).length) : B ^ k ≤ n := by
  have : ¬ (digs B n).length ≤ k := by omega
  rw [digs_length_le hB] at this; omega

set_option maxHeartbeats 400000 in
theorem refbits_any {w : World} {v : Value} {n : Nat} (h : RdD w v (digs DD n)) (hl : (digs DD n).length ≤ 1000000) :
    Calls Tryd.prog 44 #[v] w (fun e w' => e = .returned (.int .i64 (bitN n : Nat)) ∧ w' = w) := by
  have hdig := dig_digs DD_two n
  by_cases hn : n = 0
  · subst hn
    rw [digs_zero] at h
    obtain ⟨a, c, rfl, h2, h3, h4, hc⟩ := h.view
    go_enter Tryd.func44, Tryd.ntmps44
    go_wp2
    go_ret
    exact ⟨rfl, rfl⟩
  · have hne : digs DD n ≠ [] := fun h => hn ((digs_nil_iff DD_two n).1 h)
    have htop := strip_top (l := digs DD n) (by rw [strip_digs DD_two]; exact hne)
    rw [strip_digs DD_two] at htop
    have hb := bits_list (p := 16) (by rw [← DD_pow]; exact hdig) hne htop
    rw [← DD_pow, val_digs DD_two] at hb
    generalize digs DD n = l at *
    obtain ⟨a, c, rfl, h2, h3, h4, hc⟩ := h.view
    have hp := List.length_pos_iff.2 hne
    obtain ⟨g, of, rfl, hg, hcell⟩ := hc (l.length - 1) (by omega)
    rw [← List.getD_eq_getElem?_getD] at hcell
    have hx := hdig.getD DD_pos (l.length - 1)
    have d0 := len_ne hne
    generalize l.getD (l.length - 1) 0 = x at hcell hx hb
    rw [hb]
    obtain ⟨t, ht⟩ : ∃ t, 16 * (l.length - 1) + bitN x = t := ⟨_, rfl⟩
    rw [ht]
    clear hb htop hdig h hc
    unfold DD at hx
    have hx16 : bitN x ≤ 16 := bitN_le.2 (by omega)
    go_enter Tryd.func44, Tryd.ntmps44
    go_wp2
    go_loop [3, 4] (fun p x' => ∃ (q y : Nat), p = .int .i64 q ∧ x' = D32 y ∧ y ≤ x ∧ q + bitN y = t) (fun _ x' => (intOf x').toNat)
    case atStart => exact ⟨16 * (l.length - 1), x, by go_num, rfl, Nat.le_refl _, ht⟩
    case round =>
      obtain ⟨q, y, rfl, rfl, hy, hq⟩ := hrel
      by_cases hy0 : y = 0
      · subst hy0
        go_wp2
        go_ret
        rw [bitN_zero] at hq
        exact ⟨by rw [← hq]; rfl, rfl⟩
      · have e := bitN_half hy0
        have H := Lib.hid hq
        go_wp2
        go_round
        case rel => exact ⟨q + 1, y / 2, by go_num, by simp, by omega, by omega⟩
        case measure => simp [intOf]; omega

/-- The loop's relation in the document's Add. -/
structure RAdd (w : World) (l m : List Nat) (S k cy : Nat) (X : List Nat) (v : Value) (wr : World) : Prop where
  toOwn : ToOwn w X v wr
  cy1 : cy ≤ 1
  len : X.length = k
  le : k ≤ max l.length m.length + 1
  last : cy = 0 ∨ k ≤ max l.length m.length
  sum : val DD X + DD ^ k * cy = val DD (l.take k) + val DD (m.take k)
  low : k = 0 ∨ DD ^ (k - 1) ≤ S

theorem RAdd.step {w wr wr' : World} {l m : List Nat} {S k cy : Nat} {X : List Nat} {v v' : Value} (h : RAdd w l m S k cy X v wr) (hdl : Dig DD l) (hdm : Dig DD m) (hS : S = val DD l + val DD m)
    (hl : ∀ k, k < l.length → DD ^ k ≤ val DD l) (hm : ∀ k, k < m.length → DD ^ k ≤ val DD m) (hgo : k < l.length ∨ k < m.length ∨ 0 < cy)
    (ho : wr'.ownsRow w.heap.size 33 1 v' (X.length + 1) (X.map D32 ++ [D32 ((cy + l.getD k 0 + m.getD k 0) % DD)])) (hb : Below w.heap.size w wr') :
    RAdd w l m S (k + 1) ((cy + l.getD k 0 + m.getD k 0) / DD) (X ++ [(cy + l.getD k 0 + m.getD k 0) % DD]) v' wr' := by
  have a1 := hdl.getD DD_pos k
  have a2 := hdm.getD DD_pos k
  have hc := h.cy1
  have hq : (cy + l.getD k 0 + m.getD k 0) / DD ≤ 1 := by
    rw [Nat.div_le_iff_le_mul_add_pred DD_pos]; omega
  have hlen := h.len
  refine ⟨⟨h.toOwn.dig.append (Dig.cons (Nat.mod_lt _ DD_pos) (Dig.nil _)), by rw [List.length_append, List.map_append]; exact ho, hb⟩, hq, by rw [List.length_append, hlen]; rfl, ?_, ?_, ?_, ?_⟩
  · rcases h.last with h0 | h0 <;> omega
  · by_cases hk : k + 1 ≤ max l.length m.length
    · exact .inr hk
    · left
      have e1 : l.getD k 0 = 0 ∨ k < l.length := by
        by_cases hkl : k < l.length
        · exact .inr hkl
        · left; rw [List.getD_eq_getElem?_getD, List.getElem?_eq_none (by omega)]; rfl
      have e2 : m.getD k 0 = 0 ∨ k < m.length := by
        by_cases hkl : k < m.length
        · exact .inr hkl
        · left; rw [List.getD_eq_getElem?_getD, List.getElem?_eq_none (by omega)]; rfl
      have h3 := h.last
      rw [Nat.div_eq_of_lt]
      have : 2 ≤ DD := DD_two
      omega
  · have e := Nat.mod_add_div (cy + l.getD k 0 + m.getD k 0) DD
    have hs := h.sum
    rw [val_append, val_one, hlen, val_take_succ, val_take_succ, Nat.pow_succ, Nat.mul_assoc, Nat.add_assoc, ← Nat.mul_add, e, Nat.mul_add, Nat.mul_add]
    omega
  · right
    rw [Nat.add_sub_cancel, hS]
    rcases hgo with hg | hg | hg
    · have := hl k hg; omega
    · have := hm k hg; omega
    · have hs := h.sum
      obtain rfl : cy = 1 := by omega
      have h1 := val_take_drop DD l (min k l.length) (Nat.min_le_right _ _)
      have h2 := val_take_drop DD m (min k m.length) (Nat.min_le_right _ _)
      have t1 : l.take (min k l.length) = l.take k := by
        by_cases hk : k ≤ l.length
        · rw [Nat.min_eq_left hk]
        · rw [Nat.min_eq_right (by omega), List.take_length, List.take_of_length_le (by omega)]
      have t2 : m.take (min k m.length) = m.take k := by
        by_cases hk : k ≤ m.length
        · rw [Nat.min_eq_left hk]
        · rw [Nat.min_eq_right (by omega), List.take_length, List.take_of_length_le (by omega)]
      rw [t1] at h1; rw [t2] at h2
      omega

theorem RAdd.fin {w wr : World} {l m : List Nat} {S k : Nat} {X : List Nat} {v : Value} (h : RAdd w l m S k 0 X v wr) (hS : S = val DD l + val DD m) (h1 : l.length ≤ k) (h2 : m.length ≤ k) : RdD wr v (digs DD S) := by
  have hs := h.sum
  rw [val_take_ge DD l k h1, val_take_ge DD m k h2, ← hS] at hs
  have hv : val DD X = S := by omega
  have := full_digs DD_two h.toOwn.dig (by rw [h.len, hv]; rcases h.low with h0 | h0; exact .inl h0; exact .inr h0)
  rw [← hv, ← this]
  exact Rd.of_own h.toOwn.own (fun _ _ => trivial)

set_option maxHeartbeats 800000 in
theorem radd_any {w : World} {v u : Value} {A B : Nat} (h : RdD w v (digs DD A)) (k : RdD w u (digs DD B)) (hl : (digs DD A).length ≤ 1000000) (hm : (digs DD B).length ≤ 1000000) :
    Calls Tryd.prog 47 #[v, u] w (OneD w (digs DD (A + B))) := by
  obtain ⟨i0, hi, hz0, hz1, hz2⟩ := info_parts infoD
  have dA := dig_digs DD_two A
  have dB := dig_digs DD_two B
  have lA := digs_low DD_two A
  have lB := digs_low DD_two B
  have hS : A + B = val DD (digs DD A) + val DD (digs DD B) := by rw [val_digs DD_two, val_digs DD_two]
  rw [← val_digs DD_two A, val_digs DD_two] at lA
  have vA := val_digs DD_two A
  have vB := val_digs DD_two B
  generalize digs DD A = l at *
  generalize digs DD B = m at *
  rw [← vA] at lA; rw [← vB] at lB
  generalize A + B = S at *
  clear vA vB
  obtain ⟨a, c, rfl, h2, h3, h4, -⟩ := h.view
  obtain ⟨a', c', rfl, h2', h3', h4', -⟩ := k.view
  have HL := Lib.hid h; have HM := Lib.hid k; clear h k
  have LA := Lib.hid lA; have LB := Lib.hid lB; have HS := Lib.hid hS; clear lA lB hS
  go_enter Tryd.func47, Tryd.ntmps47
  go_wp2
  go_loopw [5, 6, 7] (fun v cy i wr => ∃ (k cy' : Nat) (X : List Nat), i = .int .i64 k ∧ cy = D32 cy' ∧ RAdd w l m S k cy' X v wr) (fun _ _ i _ => max l.length m.length + 1 - (intOf i).toNat)
  case atStart => exact ⟨0, 0, [], rfl, rfl, ⟨Dig.nil _, World.ownsRow_nil _ _ _ _, Below.refl _ _⟩, Nat.zero_le _, rfl, Nat.zero_le _, .inl rfl, rfl, .inl rfl⟩
  case round =>
    obtain ⟨k, cy, X, rfl, rfl, hR⟩ := hrel
    have HR := Lib.hid hR
    have hcy := hR.cy1; have hlen := hR.len; have hle := hR.le; have hlast := hR.last
    have hown := hR.toOwn.own; have hB := hR.toOwn.below
    have hsz := hB.size
    clear hR
    have hx := dA.getD DD_pos k; have hy := dB.getD DD_pos k
    unfold DD at hx hy
    by_cases hkl : k < l.length
    · have HST := Lib.hid (fun v' wr' ho hb => HR.out.step (v' := v') (wr' := wr') dA dB HS.out LA.out LB.out (.inl hkl) ho hb)
      obtain ⟨a1, c1, e1, -, -, -, hcx⟩ := (HL.out.below hB).view
      injection e1 with e1 e2 e3; subst e1 e3
      obtain ⟨g, of, rfl, hg, hcx⟩ := hcx k hkl
      rw [← List.getD_eq_getElem?_getD] at hcx
      clear e2
      by_cases hkm : k < m.length
      · obtain ⟨a2, c2, f1, -, -, -, hcy'⟩ := (HM.out.below hB).view
        injection f1 with f1 f2 f3; subst f1 f3
        obtain ⟨g', of', rfl, hg', hcy'⟩ := hcy' k hkm
        rw [← List.getD_eq_getElem?_getD] at hcy'
        clear f2
        generalize l.getD k 0 = x at *
        generalize m.getD k 0 = y at *
        go_wp2_with (at_builtin; go_loud (refine wpList_append_own _ rfl _ _ 29 rfl w.heap.size 33 i0 (.int .u32 0) 1 4 Tryd.underlying29 hi hz0 hz1 hz2 rfl (by decide) _ _ _ rfl (hown.alloc _) ⟨wr.heap.size, 0, none⟩ 1 1 [.int .u32 (((cy : Int) + (x : Int) + (y : Int)) % 65536)] rfl rfl (cell_one_new _ _ _) (by simp [Value.oneCell']) ?_ ?_ ?_ ?_; (focus (unfold maxLen; omega)); (focus omega); (focus (simp; omega)); intro v2 w2 hown2 hg2 _; have HN := Lib.hid (HST.out v2 w2 (by simpa [D32, DD] using hown2) ((hB.alloc hB.size _).grown hg2 (by simp; omega) (fun k hk => (hown.lt k hk).1))); clear hown2 hg2))
        go_round
        case rel => exact ⟨k + 1, (cy + x + y) / DD, _, by go_num, by simp [DD, D32], HN.out⟩
        case measure => simp [intOf]; omega
      · have z : m.getD k 0 = 0 := by rw [List.getD_eq_getElem?_getD, List.getElem?_eq_none (by omega)]; rfl
        rw [z] at HST
        clear hy z
        generalize l.getD k 0 = x at *
        go_wp2_with (at_builtin; go_loud (refine wpList_append_own _ rfl _ _ 29 rfl w.heap.size 33 i0 (.int .u32 0) 1 4 Tryd.underlying29 hi hz0 hz1 hz2 rfl (by decide) _ _ _ rfl (hown.alloc _) ⟨wr.heap.size, 0, none⟩ 1 1 [.int .u32 (((cy : Int) + (x : Int)) % 65536)] rfl rfl (cell_one_new _ _ _) (by simp [Value.oneCell']) ?_ ?_ ?_ ?_; (focus (unfold maxLen; omega)); (focus omega); (focus (simp; omega)); intro v2 w2 hown2 hg2 _; have HN := Lib.hid (HST.out v2 w2 (by simpa [D32, DD] using hown2) ((hB.alloc hB.size _).grown hg2 (by simp; omega) (fun k hk => (hown.lt k hk).1))); clear hown2 hg2))
        go_round
        case rel => exact ⟨k + 1, (cy + x) / DD, _, by go_num, by simp [DD, D32], HN.out⟩
        case measure => simp [intOf]; omega
    · have zl : l.getD k 0 = 0 := by rw [List.getD_eq_getElem?_getD, List.getElem?_eq_none (by omega)]; rfl
      rw [zl] at hx
      by_cases hkm : k < m.length
      · have HST := Lib.hid (fun v' wr' ho hb => HR.out.step (v' := v') (wr' := wr') dA dB HS.out LA.out LB.out (.inr (.inl hkm)) ho hb)
        obtain ⟨a2, c2, f1, -, -, -, hcy'⟩ := (HM.out.below hB).view
        injection f1 with f1 f2 f3; subst f1 f3
        obtain ⟨g', of', rfl, hg', hcy'⟩ := hcy' k hkm
        rw [← List.getD_eq_getElem?_getD] at hcy'
        clear f2
        rw [zl] at HST
        clear hx zl
        generalize m.getD k 0 = y at *
        go_wp2_with (at_builtin; go_loud (refine wpList_append_own _ rfl _ _ 29 rfl w.heap.size 33 i0 (.int .u32 0) 1 4 Tryd.underlying29 hi hz0 hz1 hz2 rfl (by decide) _ _ _ rfl (hown.alloc _) ⟨wr.heap.size, 0, none⟩ 1 1 [.int .u32 (((cy : Int) + (y : Int)) % 65536)] rfl rfl (cell_one_new _ _ _) (by simp [Value.oneCell']) ?_ ?_ ?_ ?_; (focus (unfold maxLen; omega)); (focus omega); (focus (simp; omega)); intro v2 w2 hown2 hg2 _; have HN := Lib.hid (HST.out v2 w2 (by simpa [D32, DD] using hown2) ((hB.alloc hB.size _).grown hg2 (by simp; omega) (fun k hk => (hown.lt k hk).1))); clear hown2 hg2))
        go_round
        case rel => exact ⟨k + 1, (cy + 0 + y) / DD, _, by go_num, by simp [DD, D32], HN.out⟩
        case measure => simp [intOf]; omega
      · by_cases hc0 : cy = 0
        · subst hc0
          have RX := HR.out.fin HS.out (by omega) (by omega)
          go_wp2
          go_ret
          exact ⟨_, rfl, RX, hB⟩
        · have HST := Lib.hid (fun v' wr' ho hb => HR.out.step (v' := v') (wr' := wr') dA dB HS.out LA.out LB.out (.inr (.inr (by omega))) ho hb)
          have z : m.getD k 0 = 0 := by rw [List.getD_eq_getElem?_getD, List.getElem?_eq_none (by omega)]; rfl
          rw [zl, z] at HST
          clear hx zl hy z
          go_wp2_with (at_builtin; go_loud (refine wpList_append_own _ rfl _ _ 29 rfl w.heap.size 33 i0 (.int .u32 0) 1 4 Tryd.underlying29 hi hz0 hz1 hz2 rfl (by decide) _ _ _ rfl (hown.alloc _) ⟨wr.heap.size, 0, none⟩ 1 1 [.int .u32 (((cy : Int)) % 65536)] rfl rfl (cell_one_new _ _ _) (by simp [Value.oneCell']) ?_ ?_ ?_ ?_; (focus (unfold maxLen; omega)); (focus omega); (focus (simp; omega)); intro v2 w2 hown2 hg2 _; have HN := Lib.hid (HST.out v2 w2 (by simpa [D32, DD] using hown2) ((hB.alloc hB.size _).grown hg2 (by simp; omega) (fun k hk => (hown.lt k hk).1))); clear hown2 hg2))
          go_round
          case rel => exact ⟨k + 1, (cy + 0 + 0) / DD, _, by go_num, by simp [DD, D32], HN.out⟩
          case measure => simp [intOf]; omega
end Go.Proofs.YtflkemcoomgoiaaDoor

/- The document's numbers as limbs again: Of by its contract. Conditions: the list is short, the digits are digits. -/
namespace Go.Proofs.YtflkemcoomgoiaaDoor
set_option maxRecDepth 100000
open Go.RowKit

/-- What stands in limb j when the digits below p are still to come. -/
def seg (l : List Nat) (p j : Nat) : Nat := val DD ((l.take (4 * j + 4)).drop (max p (4 * j)))
/-- All limbs then. -/
def ofP (l : List Nat) (p N : Nat) : List Nat := (List.range N).map (seg l p)

theorem val_drop_succ (B : Nat) (l : List Nat) (k : Nat) (h : k < l.length) : val B (l.drop k) = l.getD k 0 + B * val B (l.drop (k + 1)) := by
  rw [List.drop_eq_getElem_cons h, val_cons, getD_lt h]

theorem seg_lt {l : List Nat} (hd : Dig DD l) (p j : Nat) : seg l p j < BB := by
  unfold seg
  have h1 := val_lt ((hd.take (4 * j + 4)).drop (max p (4 * j)))
  rw [BB_DD]
  refine Nat.lt_of_lt_of_le h1 (Nat.pow_le_pow_right DD_pos ?_)
  rw [List.length_drop, List.length_take]; omega

theorem seg_same {l : List Nat} {i j : Nat} (hi : i < l.length) (hj : j = i / 4) : seg l i j = l.getD i 0 + DD * seg l (i + 1) j := by
  unfold seg
  rw [Nat.max_eq_left (by omega), Nat.max_eq_left (by omega), val_drop_succ _ _ _ (by rw [List.length_take]; omega)]
  congr 1
  rw [List.getD_eq_getElem?_getD, List.getElem?_take_of_lt (by omega), ← List.getD_eq_getElem?_getD]

theorem seg_other {l : List Nat} {i j : Nat} (hj : j ≠ i / 4) : seg l i j = seg l (i + 1) j := by
  unfold seg
  by_cases h : i < 4 * j
  · rw [Nat.max_eq_right (by omega), Nat.max_eq_right (by omega)]
  · rw [List.drop_eq_nil_of_le (by rw [List.length_take]; omega), List.drop_eq_nil_of_le (by rw [List.length_take]; omega)]

theorem ofP_len (l : List Nat) (p N : Nat) : (ofP l p N).length = N := by simp [ofP]
theorem ofP_get (l : List Nat) (p N : Nat) {j : Nat} (h : j < N) : (ofP l p N)[j]? = some (seg l p j) := by simp [ofP, h]

theorem ofP_step {l : List Nat} {i N : Nat} (hi : i < l.length) : (ofP l (i + 1) N).set (i / 4) (seg l (i + 1) (i / 4) * DD + l.getD i 0) = ofP l i N := by
  apply List.ext_getElem?
  intro j
  by_cases hj : j < N
  · rw [ofP_get l i N hj]
    by_cases he : j = i / 4
    · subst he
      rw [List.getElem?_set_self (by rw [ofP_len]; exact hj), seg_same hi rfl, Nat.mul_comm, Nat.add_comm]
    · rw [List.getElem?_set_ne (fun h => he h.symm), ofP_get _ _ _ hj, seg_other he]
  · rw [List.getElem?_eq_none (by rw [List.length_set, ofP_len]; omega), List.getElem?_eq_none (by rw [ofP_len]; omega)]

theorem ofP_start {l : List Nat} (N : Nat) : ofP l l.length N = List.replicate N 0 := by
  apply List.ext_getElem?
  intro j
  by_cases hj : j < N
  · rw [ofP_get _ _ _ hj, List.getElem?_replicate, if_pos hj]
    unfold seg
    rw [List.drop_eq_nil_of_le (by rw [List.length_take]; omega)]; rfl
  · rw [List.getElem?_eq_none (by rw [ofP_len]; omega), List.getElem?_eq_none (by rw [List.length_replicate]; omega)]

theorem val_take_drop' (B : Nat) (l : List Nat) (k : Nat) : val B l = val B (l.take k) + B ^ k * val B (l.drop k) := by
  by_cases hk : k ≤ l.length
  · exact val_take_drop B l k hk
  · rw [List.take_of_length_le (by omega), List.drop_eq_nil_of_le (by omega)]; simp

theorem ofP_val_take (l : List Nat) (N : Nat) : ∀ k, k ≤ N → val BB ((ofP l 0 N).take k) = val DD (l.take (4 * k))
  | 0, _ => by simp
  | k + 1, hk => by
    have ih := ofP_val_take l N k (by omega)
    have e := val_take_drop' DD (l.take (4 * k + 4)) (4 * k)
    rw [val_take_succ, ih, List.getD_eq_getElem?_getD, ofP_get _ _ _ (by omega), Option.getD_some, show 4 * (k + 1) = 4 * k + 4 by omega, e, List.take_take, Nat.min_eq_left (by omega), BB_DD, ← Nat.pow_mul]
    unfold seg
    rw [Nat.max_eq_right (Nat.zero_le _)]

theorem ofP_val {l : List Nat} {N : Nat} (h : l.length ≤ 4 * N) : val BB (ofP l 0 N) = val DD l := by
  have := ofP_val_take l N N (Nat.le_refl _)
  rw [List.take_of_length_le (by rw [ofP_len]; exact Nat.le_refl _), List.take_of_length_le h] at this
  exact this

theorem ofP_dig {l : List Nat} (hd : Dig DD l) (p N : Nat) : Dig BB (ofP l p N) := by
  intro x hx
  obtain ⟨j, -, rfl⟩ := List.mem_map.1 hx
  exact seg_lt hd p j

theorem ofP_digs (n : Nat) : ofP (digs DD n) 0 (((digs DD n).length + 3) / 4) = digs BB n := by
  have hd := dig_digs DD_two n
  have hv := ofP_val (l := digs DD n) (N := ((digs DD n).length + 3) / 4) (by omega)
  have hlow := digs_low DD_two n
  rw [val_digs DD_two] at hv
  have := full_digs BB_two (ofP_dig hd 0 (((digs DD n).length + 3) / 4)) (by
    rw [ofP_len, hv]
    by_cases h0 : (digs DD n).length = 0
    · left; omega
    · right
      have h1 := hlow ((digs DD n).length - 1) (by omega)
      refine Nat.le_trans ?_ h1
      rw [BB_DD, ← Nat.pow_mul]
      exact Nat.pow_le_pow_right DD_pos (by omega))
  rw [hv] at this
  exact this

/-- The loop's relation in Of. -/
structure OfRel (w : World) (l : List Nat) (N p : Nat) (wr : World) : Prop where
  le : p ≤ l.length
  own : wr.ownsRow w.heap.size 41 1 (.slice (some ⟨w.heap.size, 0, none⟩) N N) N ((ofP l p N).map L64)
  below : Below w.heap.size w wr

theorem OfRel.step {w wr : World} {l : List Nat} {N i : Nat} (h : OfRel w l N (i + 1) wr) : OfRel w l N i (wr.setCell ⟨w.heap.size, i / 4, none⟩ (L64 (seg l (i + 1) (i / 4) * DD + l.getD i 0))) :=
  ⟨Nat.le_of_succ_le h.le, by
    rw [← ofP_step h.le, List.map_set]
    exact (h.own.stored _ _).1, h.below.setCell (Nat.le_refl _) _⟩

theorem OfRel.drew {w wr : World} {l : List Nat} {N p : Nat} (h : OfRel w l N p wr) : OfRel w l N p wr.drew := ⟨h.le, h.own.drew, h.below.drew⟩

end Go.Proofs.YtflkemcoomgoiaaDoor

/- What the laws share: numbers that came in, small facts on sizes. Conditions: none. -/
namespace Go.Proofs.YtflkemcoomgoiaaDoor
set_option maxRecDepth 100000
open Go.RowKit Go.ChangeShapes Go.WideShapes

/-- What the walk is told of a slice of integers that came in. -/
def IsRow (k : IntKind) (w : World) (a : Option Addr) (len cap : Nat) (zs : List Int) : Prop :=
  (a = none ∧ len = 0 ∧ cap = 0 ∧ zs = []) ∨
  ∃ x, a = some x ∧ len ≤ cap ∧ cap ≤ maxLen ∧ zs.length = cap ∧ (∀ i, i < zs.length → w.cell? (x.add i) = some (.int k (zs.getD i 0))) ∧ ∀ n ∈ zs, (Lit.int k n).wf = true

theorem IsRow.nums {w : World} {a : Option Addr} {len cap : Nat} {zs : List Int} (h : IsRow .u64 w a len cap zs) : ∃ l : List Nat, l.length = len ∧ Dig BB l ∧ RdN w (.slice a len cap) l ∧ len ≤ 9223372036854775807 := by
  rcases h with ⟨rfl, rfl, rfl, rfl⟩ | ⟨⟨b, off, sp⟩, rfl, hl, hm, hz, hc, hw⟩
  · exact ⟨[], rfl, Dig.nil _, Rd.nil _ _, by omega⟩
  · have hwf : ∀ i, i < zs.length → 0 ≤ zs.getD i 0 ∧ zs.getD i 0 < 18446744073709551616 := fun i hi => by
      have := hw (zs.getD i 0) (by rw [List.getD_eq_getElem?_getD, List.getElem?_eq_getElem hi]; exact List.getElem_mem hi)
      have := (by simpa [Lit.wf, IntKind.min, IntKind.max, IntKind.bits, IntKind.signed] using this : 0 ≤ zs.getD i 0 ∧ zs.getD i 0 ≤ 18446744073709551615)
      omega
    have hlen : ((zs.take len).map Int.toNat).length = len := by simp; omega
    have hget : ∀ j, j < len → ((zs.take len).map Int.toNat)[j]? = some (zs.getD j 0).toNat := fun j hj => by
      rw [List.getElem?_map, List.getElem?_take_of_lt hj, List.getElem?_eq_getElem (by omega), List.getD_eq_getElem?_getD, List.getElem?_eq_getElem (by omega)]; rfl
    refine ⟨(zs.take len).map Int.toNat, hlen, fun x hx => ?_, ⟨some ⟨b, off, sp⟩, cap, by rw [List.length_map, hlen], by rw [List.length_map, hlen]; exact hl, hm, (fun h => by simp at h), fun j u hj => ?_⟩, by unfold maxLen at hm; omega⟩
    · obtain ⟨j, hj, rfl⟩ := List.getElem_of_mem hx
      rw [hlen] at hj
      have e := hget j hj
      rw [List.getElem?_eq_getElem (by omega)] at e
      rw [Option.some.inj e]
      have := hwf j (by omega)
      unfold BB; omega
    · have hj' : j < len := by
        have := (List.getElem?_eq_some_iff.1 hj).1
        rw [List.length_map, hlen] at this; exact this
      have hs : sp = none := by simpa [Addr.add] using World.cell?_spot (hc 0 (by omega))
      subst hs
      have hc' := hc j (by omega)
      rw [add_plain] at hc'
      rw [List.getElem?_map, hget j hj', Option.map_some, Option.some.injEq] at hj
      have := hwf j (by omega)
      exact ⟨b, off, rfl, trivial, by rw [hc', ← hj, L64, Int.toNat_of_nonneg this.1]⟩

/-- The cells of a block that is new. -/
theorem rd_arr {N : Nat → Prop} {W : World} {B n : Nat} {E : TypeId} {c : Array Value} {fz : Nat × Nat} (h : W.heap[B]? = some (.cells c E fz)) (hN : N B) (hn : c.size = n) (hm : n ≤ maxLen) : Rd N W (.slice (some ⟨B, 0, none⟩) n n) c.toList :=
  ⟨some ⟨B, 0, none⟩, n, by rw [Array.length_toList, hn], by rw [Array.length_toList, hn]; exact Nat.le_refl _, hm, (fun h => by simp at h), fun j u hj => ⟨B, 0, rfl, hN, cell_at h (by rw [Nat.zero_add, ← hj, Array.getElem?_toList])⟩⟩

theorem below_alloc (w : World) (o : Obj) : Below w.heap.size w (w.alloc o) := (Below.refl _ _).alloc (Nat.le_refl _) _
theorem below_a {w w' : World} {o : Obj} (h : Below (w.alloc o).heap.size (w.alloc o) w') : Below w.heap.size w w' := (below_alloc w o).trans (h.mono (by simp))
theorem digs_small {n : Nat} (h0 : n ≠ 0) (h : n < BB) : digs BB n = [n] := by
  rw [digs_pos BB_two (by omega), Nat.div_eq_of_lt h, Nat.mod_eq_of_lt h, digs_zero]

theorem mulR_small {A B : Nat} (h : bitN A + bitN B ≤ 65536) : mulR A B = (A * B, 0) := by
  unfold mulR
  by_cases h0 : A = 0 ∨ B = 0
  · rw [if_pos h0]
    rcases h0 with rfl | rfl <;> simp
  · rw [if_neg h0, if_neg (by omega)]

theorem bitN_add_le (a b : Nat) : bitN (a + b) ≤ bitN a + bitN b + 1 := by
  rw [bitN_le, Nat.pow_succ, Nat.pow_add]
  have h1 := bitN_lt a
  have h2 := bitN_lt b
  have h3 : 2 ^ bitN a ≤ 2 ^ bitN a * 2 ^ bitN b := Nat.le_mul_of_pos_right _ (Nat.pow_pos (by omega))
  have h4 : 2 ^ bitN b ≤ 2 ^ bitN a * 2 ^ bitN b := Nat.le_mul_of_pos_left _ (Nat.pow_pos (by omega))
  omega

theorem val_bits {l : List Nat} {k : Nat} (hd : Dig BB l) (h : l.length ≤ k) : bitN (val BB l) ≤ 64 * k := digs_bits (digs_bound hd h rfl)

theorem heap_new2 (w : World) (o1 o2 : Obj) : ((w.alloc o1).alloc o2).heap[w.heap.size + 1]? = some o2 := by
  have := heap_alloc_new (w.alloc o1) o2
  rw [show (w.alloc o1).heap.size = w.heap.size + 1 by simp] at this
  exact this
theorem heap_new3 (w : World) (o1 o2 o3 : Obj) : (((w.alloc o1).alloc o2).alloc o3).heap[w.heap.size + 1 + 1]? = some o3 := by
  have := heap_new2 (w.alloc o1) o2 o3
  rw [show (w.alloc o1).heap.size = w.heap.size + 1 by simp] at this
  exact this
theorem digsDlen {n k : Nat} (h : bitN n ≤ k) : (digs DD n).length ≤ k := by
  rw [digs_length_le DD_two, DD_pow, ← Nat.pow_mul]
  exact bitN_le.1 (by omega)
theorem u64_nat {a : Int} (h : (Lit.int .u64 a).wf = true) : ∃ n : Nat, a = (n : Int) ∧ n < BB := by
  have h2 := (by simpa [Lit.wf, IntKind.min, IntKind.max, IntKind.bits, IntKind.signed] using h : 0 ≤ a ∧ a ≤ 18446744073709551615)
  exact ⟨a.toNat, by omega, by unfold BB; omega⟩
end Go.Proofs.YtflkemcoomgoiaaDoor
