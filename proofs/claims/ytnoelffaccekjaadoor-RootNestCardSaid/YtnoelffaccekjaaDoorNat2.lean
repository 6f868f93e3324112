/- nat's small functions by their contracts: Of, Small, limb, Odd. Conditions: the lists are short. -/
import Derived.Test.YtnoelffaccekjaaDoorNat1
namespace Go.Proofs.YtnoelffaccekjaaDoor
open Go.RowKit

theorem BB_two : 2 ≤ BB := by decide
theorem BB_pos : 0 < BB := by decide

set_option maxHeartbeats 400000 in
theorem of_any {w : World} {n : Nat} : Calls Tryd.prog 32 #[L64 n] w (One w (strip [n])) := by
  go_enter Tryd.func32, Tryd.ntmps32
  go_wp2_with (go_at_call 23; refine (bare_any (show RdN _ _ [n] from rd_one (heap_alloc_new _ _) trivial) (by simp)).mono ?_; rintro e w1 ⟨v1, rfl, hr, hb⟩)
  go_ret
  exact ⟨_, rfl, hr, ((Below.refl _ _).alloc (Nat.le_refl _) _).trans (hb.mono (by simp))⟩

set_option maxHeartbeats 400000 in
theorem limb_any {w : World} {v : Value} {l : List Nat} (h : RdN w v l) {i : Int} (hi : i ≤ 9223372036854775807) (hi' : -9223372036854775808 ≤ i) :
    Calls Tryd.prog 39 #[v, .int .i64 i] w (fun e w' => e = .returned (L64 (if i < 0 then 0 else l.getD i.toNat 0)) ∧ w' = w) := by
  obtain ⟨a, c, rfl, h2, h3, h4, hc⟩ := h.view
  have H := Lib.hid h; have HC := Lib.hid hc; clear h hc
  go_enter Tryd.func39, Tryd.ntmps39
  by_cases h0 : i < 0
  · have d0 : decide (i < 0) = true := decide_eq_true h0
    rw [if_pos h0]
    clear h0
    go_wp2
    go_ret
    exact ⟨rfl, rfl⟩
  · obtain ⟨k, rfl⟩ : ∃ k : Nat, i = (k : Int) := ⟨i.toNat, by omega⟩
    have d0 : decide ((k : Int) < 0) = false := decide_eq_false h0
    rw [if_neg h0]
    clear h0 hi'
    by_cases h1 : l.length ≤ k
    · have d1 : decide (l.length ≤ k) = true := decide_eq_true h1
      have e : l.getD k 0 = 0 := by simp [List.getElem?_eq_none h1]
      clear h1
      go_wp2
      go_ret
      exact ⟨by show Ending.returned (L64 0) = Ending.returned (L64 (l.getD k 0)); rw [e], rfl⟩
    · have d1 : decide (l.length ≤ k) = false := decide_eq_false h1
      obtain ⟨g, off, rfl, hg, hcell⟩ := HC.out k (by omega)
      have hcell' : w.cell? ⟨g, off + k, none⟩ = some (L64 (l.getD k 0)) := by rw [hcell, List.getD_eq_getElem?_getD]
      clear hcell
      rw [show ((k : Int)).toNat = k from rfl]
      generalize l.getD k 0 = x at hcell' ⊢
      go_wp2
      go_ret
      exact ⟨rfl, rfl⟩

theorem limb_nat {w : World} {v : Value} {l : List Nat} (h : RdN w v l) {k : Nat} (hk : k ≤ 9223372036854775807) :
    Calls Tryd.prog 39 #[v, .int .i64 k] w (fun e w' => e = .returned (L64 (l.getD k 0)) ∧ w' = w) := by
  have := limb_any h (i := (k : Int)) (by omega) (by omega)
  rwa [if_neg (by omega), show ((k : Int)).toNat = k from rfl] at this

set_option maxHeartbeats 400000 in
theorem small_any {w : World} {v : Value} {l : List Nat} (h : RdN w v l) (hl : l.length ≤ 100000) :
    Calls Tryd.prog 31 #[v] w (fun e w' => e = .returned (.tuple #[L64 (if (strip l).length ≤ 1 then (strip l).getD 0 0 else 0), .bool (decide ((strip l).length ≤ 1))]) ∧ Below w.heap.size w w') := by
  have HB := bare_any h hl
  clear h
  generalize strip l = s at HB ⊢
  match s, HB with
  | [], HB =>
    go_enter Tryd.func31, Tryd.ntmps31
    go_wp2_with (go_at_call 23; refine HB.mono ?_; rintro e w1 ⟨v1, rfl, hr, hb⟩; obtain ⟨a, c, rfl, h2, h3, h4, hc⟩ := hr.view; clear hr hc)
    go_ret2
    exact ⟨by simp, hb⟩
  | [x], HB =>
    go_enter Tryd.func31, Tryd.ntmps31
    go_wp2_with (go_at_call 23; refine HB.mono ?_; rintro e w1 ⟨v1, rfl, hr, hb⟩; obtain ⟨a, c, rfl, h2, h3, h4, hc⟩ := hr.view; obtain ⟨g, off, rfl, hg, hcell⟩ := hc 0 (by simp); have hcell' : w1.cell? ⟨g, off, none⟩ = some (L64 x) := hcell; clear hr hc hcell)
    go_ret2
    exact ⟨by simp, hb⟩
  | x :: y :: t, HB =>
    have d0 : (((x :: y :: t).length : Int) == 0) = false := by simp; omega
    have d1 : (((x :: y :: t).length : Int) == 1) = false := by simp; omega
    go_enter Tryd.func31, Tryd.ntmps31
    go_wp2_with (go_at_call 23; refine HB.mono ?_; rintro e w1 ⟨v1, rfl, hr, hb⟩; obtain ⟨a, c, rfl, h2, h3, h4, hc⟩ := hr.view; clear hr hc)
    go_ret2
    exact ⟨by simp, hb⟩
end Go.Proofs.YtnoelffaccekjaaDoor
