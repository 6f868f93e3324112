/- nat's first functions by their contracts: slices of limbs read as lists of naturals. Conditions: the lists are short. -/
import Derived.Test.YtnoelffaccekjaaDoorChecked
import Derived.Test.YtnoelffaccekjaaDoorMem
import Derived.Test.YtnoelffaccekjaaDoorVal
import Derived.KernelRfl
import Derived.WalkSpells
import Derived.WalkLawsBesides
import Derived.Outline
namespace Go.Proofs.YtnoelffaccekjaaDoor
open Go.RowKit

/-- A limb as a value. -/
abbrev L64 (x : Nat) : Value := .int .u64 (x : Int)
/-- One more than the greatest limb. -/
def BB : Nat := 18446744073709551616
/-- A slice of limbs that reads as a list. -/
def RdN (w : World) (v : Value) (l : List Nat) : Prop := Rd (fun _ => True) w v (l.map L64)

theorem RdN.below {w w' : World} {v : Value} {l : List Nat} (h : RdN w v l) (hb : Below w.heap.size w w') : RdN w' v l := Rd.below h hb
theorem RdN.view {w : World} {v : Value} {l : List Nat} (h : RdN w v l) : ∃ a c, v = .slice a l.length c ∧ l.length ≤ c ∧ c ≤ 9223372036854775807 ∧ (a = none → c = 0) ∧ ∀ j, j < l.length → ∃ g off, a = some ⟨g, off, none⟩ ∧ g < w.heap.size ∧ w.cell? ⟨g, off + j, none⟩ = some (L64 (l[j]?.getD 0)) := by
  obtain ⟨a, c, h1, h2, h3, h4, h5⟩ := Rd.view h
  rw [List.length_map] at h1 h2 h5
  refine ⟨a, c, h1, h2, by unfold maxLen at h3; omega, h4, fun j hj => ?_⟩
  obtain ⟨g, off, e1, _, e2, e3⟩ := h5 j hj
  exact ⟨g, off, e1, e2, by rw [e3, List.getElem?_map, List.getElem?_eq_getElem hj]; rfl⟩
theorem infoU : (Tryd.prog.info? 33).map (fun i => (i.zero, i.size, i.bytes)) = some (some (.int .u64 0), 1, 8) := by kernel_rfl

/-- What a function that hands back one number leaves. -/
def One (w : World) (l : List Nat) (e : Ending) (w' : World) : Prop := ∃ v, e = .returned v ∧ RdN w' v l ∧ Below w.heap.size w w'

theorem clone_any {w : World} {v : Value} {l : List Nat} (h : RdN w v l) (hl : l.length ≤ 100000) :
    Calls Tryd.prog 41 #[v] w (One w l) := by
  obtain ⟨i0, hi, hz0, hz1, hz2⟩ := info_parts infoU
  obtain ⟨a, c, rfl, h2, h3, h4, -⟩ := h.view
  have he := fun (wx : World) (a : Option Addr) (n c : Nat) => Lib.run_eql_slice_nil (P := Tryd.prog) wx 22 33 a n c 0 0 Tryd.underlying22
  cases a with
  | none =>
    obtain rfl : c = 0 := h4 rfl
    have hl0 : l = [] := List.eq_nil_of_length_eq_zero (by omega)
    subst hl0
    clear h
    go_enter Tryd.func41, Tryd.ntmps41
    go_wp2
    go_ret
    exact ⟨_, rfl, Rd.nil _ _, Below.refl _ _⟩
  | some ad =>
    have H := Lib.hid h; clear h
    go_enter Tryd.func41, Tryd.ntmps41
    go_wp2_with (at_builtin; refine wpList_append_rd (N := fun _ => True) (xs := []) (ys := l.map L64) (n := 0) rfl (.tmp 5) (.tmp 6) 22 rfl w.heap.size 33 i0 (.int .u64 0) 8 Tryd.underlying22 hi hz0 hz1 hz2 rfl rfl rfl (own_zero (heap_alloc_new _ _) (Nat.le_refl _)) (H.out.keep (S := fun _ => False) ((Fr.refl _ _).alloc _) (fun _ _ h => h)) (by simp [Value.oneCell']) (by simp [maxLen]; omega) (by simp; omega) (by simp) ?_; intro v1 w1 own1 hg1)
    go_ret
    exact ⟨_, rfl, Rd.of_own own1 (fun _ _ => trivial), ((Below.refl _ _).alloc (Nat.le_refl _) _).grown hg1 (by simp) (fun k hk => by simp [Value.ownBlock, Act.eval] at hk; omega)⟩

theorem rd_take {w : World} {a : Option Addr} {n c k : Nat} {l : List Nat} (h : RdN w (.slice a n c) l) (hk : k ≤ l.length) : RdN w (.slice a k c) (l.take k) := by
  obtain ⟨a', c', e, h2, h3, h4, h5⟩ := h
  rw [List.length_map] at e h2
  simp only [Value.slice.injEq] at e
  obtain ⟨rfl, rfl, rfl⟩ := e
  refine ⟨a, c, by rw [List.length_map, List.length_take, Nat.min_eq_left hk], by rw [List.length_map, List.length_take]; omega, h3, h4, fun j u hj => ?_⟩
  have hjk : j < k := by
    have := (List.getElem?_eq_some_iff.1 hj).1
    rw [List.length_map, List.length_take] at this; omega
  rw [List.getElem?_map, List.getElem?_take_of_lt hjk, ← List.getElem?_map] at hj
  exact h5 j u hj

/-- The loop's relation in Bare. -/
def BareRel (l : List Nat) (k : Nat) : Prop := k ≤ l.length ∧ ∀ j, k ≤ j → l.getD j 0 = 0

set_option maxHeartbeats 400000 in
theorem bare_any {w : World} {v : Value} {l : List Nat} (h : RdN w v l) (hl : l.length ≤ 100000) :
    Calls Tryd.prog 23 #[v] w (One w (strip l)) := by
  obtain ⟨a, c, rfl, h2, h3, h4, hc⟩ := h.view
  have H := Lib.hid h; have HC := Lib.hid hc; clear h hc
  go_enter Tryd.func23, Tryd.ntmps23
  go_wp2
  go_loop [3] (fun n => ∃ k : Nat, n = .int .i64 k ∧ BareRel l k) (fun n => (intOf n).toNat)
  case atStart => exact ⟨l.length, rfl, Nat.le_refl _, fun j hj => by simp [List.getElem?_eq_none hj]⟩
  case round =>
    obtain ⟨k, rfl, hk, hz⟩ := hrel
    have HZ := Lib.hid hz; clear hz
    have fin : k = 0 ∨ l.getD (k - 1) 0 ≠ 0 → strip l = l.take k := fun hor => by
      rw [← strip_take l k HZ.out]
      refine strip_self _ ?_
      rcases hor with rfl | hne
      · exact .inl rfl
      · by_cases hk0 : k = 0
        · subst hk0; exact .inl rfl
        · refine .inr ?_
          rw [List.length_take, Nat.min_eq_left hk]
          simpa [List.getD_eq_getElem?_getD, List.getElem?_take_of_lt (show k - 1 < k by omega)] using hne
    have FIN := Lib.hid fin; clear fin
    by_cases hk0 : k = 0
    · subst hk0
      have d0 : decide ((0 : Int) < ((0 : Nat) : Int)) = false := by simp
      go_wp2_with (go_at_call 41; refine (clone_any (rd_take H.out hk) (by simp)).mono ?_; rintro e w1 ⟨v1, rfl, hr, hb⟩)
      go_ret
      have E := FIN.out (by simp)
      exact ⟨_, rfl, by rw [E]; exact hr, hb⟩
    · have d0 : decide ((0 : Int) < (k : Int)) = true := decide_eq_true (by omega)
      obtain ⟨g, off, rfl, hg, hcell⟩ := HC.out (k - 1) (by omega)
      have hcell' : w.cell? ⟨g, off + (k - 1), none⟩ = some (L64 (l.getD (k - 1) 0)) := by rw [hcell, List.getD_eq_getElem?_getD]
      clear hcell
      generalize hx : l.getD (k - 1) 0 = x at hcell'
      have HX := Lib.hid hx; clear hx
      by_cases hx0 : x = 0
      · subst hx0
        go_wp2_with fail
        go_round
        case rel => exact ⟨k - 1, by go_num, by omega, fun j hj => by
          by_cases hjk : j = k - 1
          · rw [hjk]; exact HX.out
          · exact HZ.out j (by omega)⟩
        case measure => simp [intOf]; omega
      · have dx : ((x : Int) == 0) = false := by simp; omega
        go_wp2_with (go_at_call 41; refine (clone_any (rd_take H.out hk) (by simp; omega)).mono ?_; rintro e w1 ⟨v1, rfl, hr, hb⟩)
        go_ret
        exact ⟨_, rfl, by rw [FIN.out (.inr (by rw [HX.out]; exact hx0))]; exact hr, hb⟩
end Go.Proofs.YtnoelffaccekjaaDoor
