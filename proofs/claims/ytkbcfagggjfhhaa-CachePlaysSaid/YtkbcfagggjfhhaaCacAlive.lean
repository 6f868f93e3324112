/- The chapter's example returns true and leaves what was there. Conditions: none. -/
import Derived.Test.YtkbcfagggjfhhaaKvsi
namespace Go.Proofs.Ytkbcfagggjfhhaa.CAlive
set_option maxRecDepth 100000
open Go.RowKit Go.Proofs.Ytkbcfagggjfhhaa Go.Proofs.Ytkbcfagggjfhhaa.Csi

theorem u8_in {a : Int} (h : (Lit.int .u8 a).wf = true) : 0 ≤ a ∧ a ≤ 255 := by
  have h : (decide (IntKind.u8.min ≤ a) && decide (a ≤ IntKind.u8.max)) = true := h
  rw [Bool.and_eq_true, decide_eq_true_eq, decide_eq_true_eq, show IntKind.u8.min = 0 by decide, show IntKind.u8.max = 255 by decide] at h
  exact h
theorem u16_in {a : Int} (h : (Lit.int .u16 a).wf = true) : 0 ≤ a ∧ a ≤ 65535 := by
  have h : (decide (IntKind.u16.min ≤ a) && decide (a ≤ IntKind.u16.max)) = true := h
  rw [Bool.and_eq_true, decide_eq_true_eq, decide_eq_true_eq, show IntKind.u16.min = 0 by decide, show IntKind.u16.max = 65535 by decide] at h
  exact h
theorem low (w : World) {w1 : World} (h : w.heap.size ≤ w1.heap.size) : ∀ k, k < w.heap.size → k < w1.heap.size := fun _ hk => Nat.lt_of_lt_of_le hk h
set_option maxRecDepth 100000 in
theorem alive_any (w : World) : Calls Try.prog 6 #[] w fun e w' => e = .returned (.bool true) ∧ Below w.heap.size w w' := by
  have H1 : Hid (Calls Try.prog 12 #[.int .i64 2] w fun e w' => ∃ c, e = .returned (.tuple #[.pointer (some ⟨c, 0, none⟩), .int .i64 0]) ∧ K (fun k => k < w.heap.size) c 2 [] w' ∧ Below w.heap.size w w') := Lib.hid (new_kv (N := fun k => k < w.heap.size) (most := 2) (w := w) (by decide) (by decide) (fun _ h => h))
  have H2 := Lib.hid (fun c w1 h hs => put_add (N := fun k => k < w.heap.size) (c := c) (most := 2) (M := []) (w := w1) (kk := ⟨#[97]⟩) (vv := 1) (by decide) h (low w hs) (by decide) (by simp) (by decide))
  have H3 := Lib.hid (fun c w1 h hs => put_add (N := fun k => k < w.heap.size) (c := c) (most := 2) (M := [(.string ⟨#[97]⟩, .int .i64 1)]) (w := w1) (kk := ⟨#[98]⟩) (vv := 2) (by decide) h (low w hs) (by decide) (by simp) (by decide))
  have H4 := Lib.hid (fun c w1 h hs => find_kv (N := fun k => k < w.heap.size) (c := c) (most := 2) (m1 := [(.string ⟨#[98]⟩, .int .i64 2)]) (m2 := []) (w := w1) (kk := ⟨#[97]⟩) (v := .int .i64 1) h (low w hs))
  have H5 := Lib.hid (fun c w1 h hs => put_over (N := fun k => k < w.heap.size) (c := c) (most := 2) (M0 := [(.string ⟨#[97]⟩, .int .i64 1)]) (y := (.string ⟨#[98]⟩, .int .i64 2)) (w := w1) (kk := ⟨#[99]⟩) (vv := 3) (by decide) h (low w hs) (by decide) (by simp) (by decide))
  go_enter Try.func6, Try.ntmps6
  go_upto_region 6 with
    (first
      | (go_at_call 12; (with_reducible refine H1.out.mono ?_); rintro e w1 ⟨c, rfl, k1, hb⟩; have B1 := hb; clear H1)
      | (go_at_call 18; (with_reducible refine (H2.out _ _ k1 B1.size).mono ?_); rintro e w2 ⟨rfl, k2, hf⟩; have B2 := B1.trans (hf.below B1.size (fun _ hk hn => hn hk)); clear H2 k1)
      | (go_at_call 18; (with_reducible refine (H3.out _ _ k2 B2.size).mono ?_); rintro e w3 ⟨rfl, k3, hf⟩; have B3 := B2.trans (hf.below B2.size (fun _ hk hn => hn hk)); clear H3 k2)
      | (go_at_call 14; (with_reducible refine (H4.out _ _ k3 B3.size).mono ?_); rintro e w4 ⟨rfl, k4, hf⟩; have B4 := B3.trans (hf.below B3.size (fun _ hk hn => hn hk)); clear H4 k3)
      | (go_at_call 18; (with_reducible refine (H5.out _ _ k4 B4.size).mono ?_); rintro e w5 ⟨rfl, k5, hf⟩; have B5 := B4.trans (hf.below B4.size (fun _ hk hn => hn hk)); clear H5 k4)
      | fail)
  go_wp2_with
    (first
      | (go_at_call 12; (with_reducible refine (new_arg (.inl (by decide))).mono ?_); rintro e w6 ⟨rfl, rfl⟩)
      | fail)
  go_ret
  exact ⟨rfl, B5⟩
end Go.Proofs.Ytkbcfagggjfhhaa.CAlive
