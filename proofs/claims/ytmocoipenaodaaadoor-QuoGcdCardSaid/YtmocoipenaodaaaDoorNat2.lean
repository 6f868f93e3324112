/- nat's small functions by their contracts: Of, Small, limb, Odd. Conditions: the lists are short. -/
import Derived.Test.YtmocoipenaodaaaDoorNat1
namespace Go.Proofs.YtmocoipenaodaaaDoor
open Go.RowKit

theorem BB_two : 2 ≤ BB := by decide
theorem BB_pos : 0 < BB := by decide

set_option maxHeartbeats 400000 in
theorem of_any {w : World} {n : Nat} : Calls Tryd.prog 16 #[L64 n] w (One w (strip [n])) := by
  go_enter Tryd.func16, Tryd.ntmps16
  go_wp2_with (go_at_call 25; refine (bare_any (show RdN _ _ [n] from rd_one (heap_alloc_new _ _) trivial) (by simp)).mono ?_; rintro e w1 ⟨v1, rfl, hr, hb⟩)
  go_ret
  exact ⟨_, rfl, hr, ((Below.refl _ _).alloc (Nat.le_refl _) _).trans (hb.mono (by simp))⟩

set_option maxHeartbeats 400000 in
theorem limb_any {w : World} {v : Value} {l : List Nat} (h : RdN w v l) {i : Int} (hi : i ≤ 9223372036854775807) (hi' : -9223372036854775808 ≤ i) :
    Calls Tryd.prog 39 #[v, .int .i64 i] w (fun e w' => e = .returned (L64 (if i < 0 then 0 else l.getD i.toNat 0)) ∧ w' = w) := by
  obtain ⟨a, c, rfl, h2, h3, h4, hc⟩ := h.view
  have H := Lib.hid h; have HC := Lib.hid hc; clear h hc
  go_enter Tryd.func39, Tryd.ntmps39
  by_cases h0 : i < 0
  · have d0 : decide (i < 0) = true := decide_eq_true h0
    rw [if_pos h0]
    clear h0
    go_wp2
    go_ret
    exact ⟨rfl, rfl⟩
  · obtain ⟨k, rfl⟩ : ∃ k : Nat, i = (k : Int) := ⟨i.toNat, by omega⟩
    have d0 : decide ((k : Int) < 0) = false := decide_eq_false h0
    rw [if_neg h0]
    clear h0 hi'
    by_cases h1 : l.length ≤ k
    · have d1 : decide (l.length ≤ k) = true := decide_eq_true h1
      have e : l.getD k 0 = 0 := by simp [List.getElem?_eq_none h1]
      clear h1
      go_wp2
      go_ret
      exact ⟨by show Ending.returned (L64 0) = Ending.returned (L64 (l.getD k 0)); rw [e], rfl⟩
    · have d1 : decide (l.length ≤ k) = false := decide_eq_false h1
      obtain ⟨g, off, rfl, hg, hcell⟩ := HC.out k (by omega)
      have hcell' : w.cell? ⟨g, off + k, none⟩ = some (L64 (l.getD k 0)) := by rw [hcell, List.getD_eq_getElem?_getD]
      clear hcell
      rw [show ((k : Int)).toNat = k from rfl]
      generalize l.getD k 0 = x at hcell' ⊢
      go_wp2
      go_ret
      exact ⟨rfl, rfl⟩

theorem limb_nat {w : World} {v : Value} {l : List Nat} (h : RdN w v l) {k : Nat} (hk : k ≤ 9223372036854775807) :
    Calls Tryd.prog 39 #[v, .int .i64 k] w (fun e w' => e = .returned (L64 (l.getD k 0)) ∧ w' = w) := by
  have := limb_any h (i := (k : Int)) (by omega) (by omega)
  rwa [if_neg (by omega), show ((k : Int)).toNat = k from rfl] at this

end Go.Proofs.YtmocoipenaodaaaDoor
