/- The document's numbers (digits to the base 65536): Norm, To, Num by their contracts. Conditions: the lists are short, the digits are digits. -/
import Derived.Test.YtnoelffaccekjaaDoorNat9
namespace Go.Proofs.YtnoelffaccekjaaDoor
open Go.RowKit

/-- A digit as a value. -/
abbrev D32 (x : Nat) : Value := .int .u32 (x : Int)
/-- The document's base. -/
def DD : Nat := 65536
theorem DD_two : 2 ≤ DD := by decide
theorem DD_pos : 0 < DD := by decide
theorem DD_pow : DD = 2 ^ 16 := by decide
/-- A slice of digits that reads as a list. -/
def RdD (w : World) (v : Value) (l : List Nat) : Prop := Rd (fun _ => True) w v (l.map D32)
theorem RdD.below {w w' : World} {v : Value} {l : List Nat} (h : RdD w v l) (hb : Below w.heap.size w w') : RdD w' v l := Rd.below h hb
theorem RdD.view {w : World} {v : Value} {l : List Nat} (h : RdD w v l) : ∃ a c, v = .slice a l.length c ∧ l.length ≤ c ∧ c ≤ 9223372036854775807 ∧ (a = none → c = 0) ∧ ∀ j, j < l.length → ∃ g off, a = some ⟨g, off, none⟩ ∧ g < w.heap.size ∧ w.cell? ⟨g, off + j, none⟩ = some (D32 (l[j]?.getD 0)) := by
  obtain ⟨a, c, h1, h2, h3, h4, h5⟩ := Rd.view h
  rw [List.length_map] at h1 h2 h5
  refine ⟨a, c, h1, h2, by unfold maxLen at h3; omega, h4, fun j hj => ?_⟩
  obtain ⟨g, off, e1, _, e2, e3⟩ := h5 j hj
  exact ⟨g, off, e1, e2, by rw [e3, List.getElem?_map, List.getElem?_eq_getElem hj]; rfl⟩
theorem infoD : (Tryd.prog.info? 50).map (fun i => (i.zero, i.size, i.bytes)) = some (some (.int .u32 0), 1, 4) := by kernel_rfl
theorem RdD.nil (w : World) : RdD w (.slice none 0 0) [] := Rd.nil _ _
theorem RdD.nil0 (w : World) : RdD w (.slice none 0 0) (digs DD 0) := by rw [digs_zero]; exact Rd.nil _ _

/-- What a function that hands back one list of digits leaves. -/
def OneD (w : World) (l : List Nat) (e : Ending) (w' : World) : Prop := ∃ v, e = .returned v ∧ RdD w' v l ∧ Below w.heap.size w w'

theorem one32 (l : List Nat) : ∀ u ∈ l.map D32, u.oneCell' = true := by
  intro u hu
  obtain ⟨x, -, rfl⟩ := List.mem_map.1 hu
  rfl

theorem rdD_take {w : World} {a : Option Addr} {n c k : Nat} {l : List Nat} (h : RdD w (.slice a n c) l) (hk : k ≤ l.length) : RdD w (.slice a k c) (l.take k) := by
  obtain ⟨a', c', e, h2, h3, h4, h5⟩ := h
  rw [List.length_map] at e h2
  simp only [Value.slice.injEq] at e
  obtain ⟨rfl, rfl, rfl⟩ := e
  refine ⟨a, c, by rw [List.length_map, List.length_take, Nat.min_eq_left hk], by rw [List.length_map, List.length_take]; omega, h3, h4, fun j u hj => ?_⟩
  have hjk : j < k := by
    have := (List.getElem?_eq_some_iff.1 hj).1
    rw [List.length_map, List.length_take] at this; omega
  rw [List.getElem?_map, List.getElem?_take_of_lt hjk, ← List.getElem?_map] at hj
  exact h5 j u hj

theorem bare_fin {l : List Nat} {k : Nat} (hk : k ≤ l.length) (hz : ∀ j, k ≤ j → l.getD j 0 = 0) (hor : k = 0 ∨ l.getD (k - 1) 0 ≠ 0) : l.take k = strip l := by
  rw [← strip_take l k hz]
  refine (strip_self _ ?_).symm
  rcases hor with rfl | hne
  · exact .inl rfl
  · by_cases hk0 : k = 0
    · subst hk0; exact .inl rfl
    · refine .inr ?_
      rw [List.length_take, Nat.min_eq_left hk]
      simpa [List.getD_eq_getElem?_getD, List.getElem?_take_of_lt (show k - 1 < k by omega)] using hne

set_option maxHeartbeats 400000 in
theorem norm_any {w : World} {v : Value} {l : List Nat} (h : RdD w v l) (hl : l.length ≤ 1000000) :
    Calls Tryd.prog 25 #[v] w (OneD w (strip l)) := by
  obtain ⟨i0, hi, hz0, hz1, hz2⟩ := info_parts infoD
  obtain ⟨a, c, rfl, h2, h3, h4, hc⟩ := h.view
  have H := Lib.hid h; have HC := Lib.hid hc; clear h hc
  go_enter Tryd.func25, Tryd.ntmps25
  go_wp2
  go_loop [3] (fun n => ∃ k : Nat, n = .int .i64 k ∧ BareRel l k) (fun n => (intOf n).toNat)
  case atStart => exact ⟨l.length, rfl, Nat.le_refl _, fun j hj => by simp [List.getElem?_eq_none hj]⟩
  case round =>
    obtain ⟨k, rfl, hk, hz⟩ := hrel
    have HZ := Lib.hid hz
    have FIN := Lib.hid (bare_fin hk hz); clear hz
    have hKL : (l.take k).length = k := by rw [List.length_take]; omega
    have RT := Lib.hid (rdD_take H.out hk)
    by_cases hk0 : k = 0
    · have E := FIN.out (.inl hk0)
      subst hk0
      have d0 : decide ((0 : Int) < ((0 : Nat) : Int)) = false := by simp
      go_wp2_with (at_builtin; refine wpList_append_rd (N := fun _ => True) (xs := []) (ys := (l.take 0).map D32) (n := 0) rfl (.tmp 18) (.tmp 21) 27 rfl w.heap.size 50 i0 (.int .u32 0) 4 Tryd.underlying27 hi hz0 hz1 hz2 rfl rfl rfl (own_zero (heap_alloc_new _ _) (Nat.le_refl _)) (RT.out.keep (S := fun _ => False) ((Fr.refl _ _).alloc _) (fun _ _ h => h)) (one32 _) (by rw [List.length_map, hKL]; unfold maxLen; omega) (by rw [List.length_map, hKL]; omega) (by simp) ?_; intro v1 w1 own1 hg1)
      go_ret
      exact ⟨_, rfl, by rw [← E]; exact Rd.of_own own1 (fun _ _ => trivial), ((Below.refl _ _).alloc (Nat.le_refl _) _).grown hg1 (by simp) (fun k hk => by simp [Value.ownBlock, Act.eval] at hk; omega)⟩
    · have d0 : decide ((0 : Int) < (k : Int)) = true := decide_eq_true (by omega)
      obtain ⟨g, off, rfl, hg, hcell⟩ := HC.out (k - 1) (by omega)
      have hcell' : w.cell? ⟨g, off + (k - 1), none⟩ = some (D32 (l.getD (k - 1) 0)) := by rw [hcell, List.getD_eq_getElem?_getD]
      clear hcell
      generalize hx : l.getD (k - 1) 0 = x at hcell'
      have HX := Lib.hid hx; clear hx
      by_cases hx0 : x = 0
      · subst hx0
        go_wp2_with fail
        go_round
        case rel => exact ⟨k - 1, by go_num, by omega, fun j hj => by
          by_cases hjk : j = k - 1
          · rw [hjk]; exact HX.out
          · exact HZ.out j (by omega)⟩
        case measure => simp [intOf]; omega
      · have dx : ((x : Int) == 0) = false := by simp; omega
        go_wp2_with (at_builtin; refine wpList_append_rd (N := fun _ => True) (xs := []) (ys := (l.take k).map D32) (n := 0) rfl (.tmp 18) (.tmp 21) 27 rfl w.heap.size 50 i0 (.int .u32 0) 4 Tryd.underlying27 hi hz0 hz1 hz2 rfl rfl rfl (own_zero (heap_alloc_new _ _) (Nat.le_refl _)) (RT.out.keep (S := fun _ => False) ((Fr.refl _ _).alloc _) (fun _ _ h => h)) (one32 _) (by rw [List.length_map, hKL]; unfold maxLen; omega) (by rw [List.length_map, hKL]; omega) (by simp) ?_; intro v1 w1 own1 hg1)
        go_ret
        exact ⟨_, rfl, by rw [← FIN.out (.inr (by rw [HX.out]; exact hx0))]; exact Rd.of_own own1 (fun _ _ => trivial), ((Below.refl _ _).alloc (Nat.le_refl _) _).grown hg1 (by simp) (fun k hk => by simp [Value.ownBlock, Act.eval] at hk; omega)⟩

theorem BB_DD : BB = DD ^ 4 := by decide

/-- What stands in To's row. -/
structure ToOwn (w : World) (X : List Nat) (v : Value) (wr : World) : Prop where
  dig : Dig DD X
  own : wr.ownsRow w.heap.size 50 1 v X.length (X.map D32)
  below : Below w.heap.size w wr
/-- The outer loop's relation: k limbs are done. -/
structure ToOut (w : World) (l : List Nat) (k : Nat) (X : List Nat) (v : Value) (wr : World) : Prop extends ToOwn w X v wr where
  le : k ≤ l.length
  len : X.length = 4 * k
  sum : val DD X = val BB (l.take k)
/-- The inner loop's relation: j digits of the next limb are done, x is what is left of it. -/
structure ToIn (w : World) (l : List Nat) (k j x : Nat) (X : List Nat) (v : Value) (wr : World) : Prop extends ToOwn w X v wr where
  le : j ≤ 4
  len : X.length = 4 * k + j
  small : x < DD ^ (4 - j)
  sum : val DD X + DD ^ (4 * k + j) * x = val BB (l.take (k + 1))

theorem ToOut.start {w wr : World} {l : List Nat} {k : Nat} {X : List Nat} {v : Value} (h : ToOut w l k X v wr) (hd : Dig BB l) : ToIn w l k 0 (l.getD k 0) X v wr :=
  ⟨h.toToOwn, by omega, h.len, by have := hd.getD BB_pos k; rw [BB_DD] at this; exact this, by
    rw [h.sum, val_take_succ, Nat.add_zero, Nat.pow_mul, ← BB_DD]⟩
theorem ToIn.step {w wr wr' : World} {l : List Nat} {k j x : Nat} {X : List Nat} {v v' : Value} (h : ToIn w l k j x X v wr) (hj : j < 4)
    (ho : wr'.ownsRow w.heap.size 50 1 v' (X.length + 1) (X.map D32 ++ [D32 (x % DD)])) (hb : Below w.heap.size w wr') : ToIn w l k (j + 1) (x / DD) (X ++ [x % DD]) v' wr' :=
  ⟨⟨h.dig.append (Dig.cons (Nat.mod_lt _ DD_pos) (Dig.nil _)), by rw [List.length_append, List.map_append]; exact ho, hb⟩, hj, by rw [List.length_append, h.len]; rfl, by
    have := h.small
    rw [show 4 - j = 4 - (j + 1) + 1 by omega, Nat.pow_succ] at this
    exact (Nat.div_lt_iff_lt_mul DD_pos).2 this, by
    rw [← h.sum, val_append, val_one, h.len, ← Nat.add_assoc (4 * k), Nat.pow_succ, Nat.mul_assoc, Nat.add_assoc, ← Nat.mul_add, Nat.mod_add_div]⟩
theorem ToIn.bound {w wr : World} {l : List Nat} {k j x : Nat} {X : List Nat} {v : Value} (h : ToIn w l k j x X v wr) : x < BB := by
  rw [BB_DD]; exact Nat.lt_of_lt_of_le h.small (Nat.pow_le_pow_right DD_pos (by omega))
theorem ToIn.fin {w wr : World} {l : List Nat} {k x : Nat} {X : List Nat} {v : Value} (h : ToIn w l k 4 x X v wr) (hk : k < l.length) : ToOut w l (k + 1) X v wr :=
  ⟨h.toToOwn, hk, by rw [h.len]; omega, by
    have h1 : x < DD ^ 0 := h.small
    have h2 : x = 0 := by rw [Nat.pow_zero] at h1; omega
    rw [← h.sum, h2, Nat.mul_zero, Nat.add_zero]⟩

set_option maxHeartbeats 400000 in
theorem to_any {w : World} {v : Value} {l : List Nat} (h : RdN w v l) (hd : Dig BB l) (hl : l.length ≤ 100000) :
    Calls Tryd.prog 9 #[v] w (OneD w (digs DD (val BB l))) := by
  obtain ⟨i0, hi, hz0, hz1, hz2⟩ := info_parts infoD
  obtain ⟨a, c, rfl, h2, h3, h4, hc⟩ := h.view
  have H := Lib.hid h; clear h hc
  go_enter Tryd.func9, Tryd.ntmps9
  go_wp2
  go_loopw [3, 4] (fun v i wr => ∃ (k : Nat) (X : List Nat), i = .int .i64 k ∧ ToOut w l k X v wr) (fun _ i _ => l.length - (intOf i).toNat)
  case atStart => exact ⟨0, [], rfl, ⟨Dig.nil _, World.ownsRow_nil _ _ _ _, Below.refl _ _⟩, Nat.zero_le _, rfl, rfl⟩
  case round =>
    obtain ⟨k, X, rfl, hO⟩ := hrel
    have HO := Lib.hid hO
    have hk := hO.le
    by_cases hkn : k < l.length
    · have HI := Lib.hid (hO.start hd)
      obtain ⟨a', c', e1, -, -, -, hcell⟩ := (H.out.below hO.below).view
      injection e1 with e1 e2 e3; subst e1 e3
      obtain ⟨g, of, rfl, hg, hcell⟩ := hcell k hkn
      rw [← List.getD_eq_getElem?_getD] at hcell
      generalize l.getD k 0 = x at hcell HI
      clear hO e2
      go_wp2
      go_loopw [3, 5, 6] (fun v x i wr => ∃ (j x' : Nat) (X : List Nat), i = .int .i64 j ∧ x = L64 x' ∧ ToIn w l k j x' X v wr) (fun _ _ i _ => 4 - (intOf i).toNat)
      case atStart => exact ⟨0, x, X, rfl, rfl, HI.out⟩
      case round =>
        clear HO HI
        obtain ⟨j, y, X, rfl, rfl, hI⟩ := hrel
        have HI := Lib.hid hI
        have hj := hI.le
        by_cases hj4 : j < 4
        · have hown := hI.own
          have hXl := hI.len
          clear hI
          have hB := HI.out.below
          have hsz := hB.size
          have hy : y < 18446744073709551616 := HI.out.bound
          go_wp2_with (at_builtin; go_loud (refine wpList_append_own _ rfl _ _ 27 rfl w.heap.size 50 i0 (.int .u32 0) 1 4 Tryd.underlying27 hi hz0 hz1 hz2 rfl (by decide) _ _ _ rfl (hown.alloc _) ⟨wr.heap.size, 0, none⟩ 1 1 [.int .u32 ((y : Int) % 65536)] rfl rfl (cell_one_new _ _ _) (by simp [Value.oneCell']) ?_ ?_ ?_ ?_; (focus (unfold maxLen; omega)); (focus omega); (focus (simp; omega)); intro v2 w2 hown2 hg2 _; have HR := Lib.hid (HI.out.step hj4 (by rw [D32, DD, Int.natCast_emod]; exact hown2) ((hB.alloc hB.size _).grown hg2 (by simp; omega) (fun k hk => (hown.lt k hk).1))); clear hown2 hg2))
          go_round
          case rel => exact ⟨j + 1, y / DD, _, by go_num, by simp [DD, L64], HR.out⟩
          case measure => simp [intOf]; omega
        · obtain rfl : j = 4 := by omega
          have HF := Lib.hid (hI.fin hkn)
          clear hI
          go_wp2
          go_round
          case rel => exact ⟨k + 1, X, by go_num, HF.out⟩
          case measure => simp [intOf]; omega
    · have hkl : k = l.length := by omega
      have E : strip X = digs DD (val BB l) := by rw [strip_eq DD_two hO.dig, hO.sum, hkl, List.take_length]
      have RX : RdD _ _ X := Rd.of_own hO.own (fun _ _ => trivial)
      have hB := hO.below
      have hX := hO.len
      clear hO
      go_wp2_with (go_at_call 25; (with_reducible refine (norm_any RX ?_).mono ?_); (focus omega); rintro e w3 ⟨v3, rfl, hr, hb3⟩)
      go_ret
      rw [E] at hr
      exact ⟨_, rfl, hr, hB.trans (hb3.mono hB.size)⟩
end Go.Proofs.YtnoelffaccekjaaDoor
