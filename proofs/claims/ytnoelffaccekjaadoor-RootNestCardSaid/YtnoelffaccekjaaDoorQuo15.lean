/- quo.Div and quo.Up by their contracts. Conditions: the lists are short, the limbs are limbs, math/bits' table stands in its variable. -/
import Derived.Test.YtnoelffaccekjaaDoorQuo14
namespace Go.Proofs.YtnoelffaccekjaaDoor
open Go.RowKit

/-- What quo.Div tells. -/
def divR (A B : Nat) : Nat × Nat × Int := if B = 0 then (0, 0, 1) else (A / B, A % B, 0)
def TwoE (w : World) (r : Nat × Nat × Int) (e : Ending) (w' : World) : Prop :=
  ∃ v u, e = .returned (.tuple #[v, u, .int .i64 r.2.2]) ∧ RdN w' v (digs BB r.1) ∧ RdN w' u (digs BB r.2.1) ∧ Below w.heap.size w w'

theorem digs_one {B : Nat} (h : (digs BB B).length = 1) : digs BB B = [B] := by
  obtain ⟨x, hx⟩ := List.length_eq_one_iff.1 h
  have e := val_digs BB_two B
  rw [hx, val_one] at e
  rw [hx, e]

theorem digs_top {B : Nat} (h : B ≠ 0) : (digs BB B).getD ((digs BB B).length - 1) 0 ≠ 0 := by
  intro h0
  have hl : 0 < (digs BB B).length := List.length_pos_iff.2 (fun e => h ((digs_nil_iff BB_two B).1 e))
  have h1 := digs_low BB_two B ((digs BB B).length - 1) (by omega)
  have e := val_top1 (B := BB) (P := digs BB B) (n := (digs BB B).length - 1) (by omega)
  rw [h0, Nat.mul_zero, Nat.add_zero, val_digs BB_two] at e
  have h2 := val_lt ((dig_digs BB_two B).take ((digs BB B).length - 1))
  rw [List.length_take, Nat.min_eq_left (by omega)] at h2
  omega

theorem below_cell {w w' : World} {p : Addr} {u : Value} (h : Below w.heap.size w w') (hc : w.cell? p = some u) : w'.cell? p = some u :=
  (Fr.of_below (S := fun _ => False) h).at_cell hc (fun h => h)

theorem RdN.view1 {w : World} {v : Value} {x : Nat} (h : RdN w v [x]) : ∃ g off k, v = .slice (some ⟨g, off, none⟩) 1 k ∧ 1 ≤ k ∧ k ≤ 9223372036854775807 ∧ w.cell? ⟨g, off, none⟩ = some (L64 x) := by
  obtain ⟨a, c, rfl, h2, h3, -, h5⟩ := h.view
  obtain ⟨g, off, rfl, -, hc⟩ := h5 0 (Nat.lt_succ_self 0)
  exact ⟨g, off, c, rfl, h2, h3, hc⟩

set_option maxHeartbeats 1000000 in
theorem div_num {w : World} {v u : Value} {l m : List Nat} (hl : RdN w v l) (hm : RdN w u m) (hdl : Dig BB l) (hdm : Dig BB m) (h1 : l.length ≤ 50000) (h2 : m.length ≤ 50000) (hT : Tab w) :
    Calls Tryd.prog 50 #[v, u] w (TwoE w (divR (val BB l) (val BB m))) := by
  have HA := bare_num hl hdl (by omega)
  have HB := fun w' (hb : Below w.heap.size w w') => bare_num (hm.below hb) hdm (by omega)
  have la := digs_bound hdl h1 rfl
  have lb := digs_bound hdm h2 rfl
  generalize val BB l = A at *
  generalize val BB m = B at *
  have dA := dig_digs BB_two A
  have dB := dig_digs BB_two B
  have HC := fun w v u (hv : RdN w v (digs BB A)) (hu : RdN w u (digs BB B)) => cmp_any hv hu dA dB (by omega) (by omega)
  rw [val_digs BB_two, val_digs BB_two] at HC
  unfold TwoE divR
  have HT := Lib.hid hT
  by_cases hB : B = 0
  · subst hB
    rw [if_pos rfl]
    rw [digs_zero] at *
    clear HC hT
    go_enter Tryd.func50, Tryd.ntmps50
    go_wp2_with (first
      | (go_at_call 23; (with_reducible refine HA.mono ?_); rintro e w1 ⟨v1, rfl, hr1, hb1⟩; obtain ⟨a1, k1, rfl, -⟩ := hr1.view)
      | (go_at_call 23; (with_reducible refine (HB _ hb1).mono ?_); rintro e w2 ⟨v2, rfl, hr2, hb2⟩; obtain ⟨a2, k2, rfl, -⟩ := hr2.view))
    go_ret3
    exact ⟨_, _, rfl, RdN.nil _, RdN.nil _, hb1.trans (hb2.mono hb1.size)⟩
  · rw [if_neg hB]
    have hBl : 0 < (digs BB B).length := List.length_pos_iff.2 (fun e => hB ((digs_nil_iff BB_two B).1 e))
    have hBn : ((digs BB B).length : Int) ≠ 0 := by omega
    by_cases hlt : A < B
    · rw [Nat.div_eq_of_lt hlt, Nat.mod_eq_of_lt hlt, digs_zero]
      rw [cmpN_lt hlt] at HC
      have HC := Lib.hid HC
      generalize digs BB B = sB at *
      clear hT
      go_enter Tryd.func50, Tryd.ntmps50
      go_wp2_with (first
        | (go_at_call 23; (with_reducible refine HA.mono ?_); rintro e w1 ⟨v1, rfl, hr1, hb1⟩; obtain ⟨a1, k1, rfl, -⟩ := hr1.view)
        | (go_at_call 23; (with_reducible refine (HB _ hb1).mono ?_); rintro e w2 ⟨v2, rfl, hr2, hb2⟩; obtain ⟨a2, k2, rfl, -⟩ := hr2.view)
        | (go_at_call 17; (with_reducible refine (HC.out _ _ _ (hr1.below hb2) hr2).mono ?_); rintro e w3 ⟨rfl, hb3⟩))
      go_ret3
      exact ⟨_, _, rfl, RdN.nil _, (hr1.below hb2).below hb3, (hb1.trans (hb2.mono hb1.size)).trans (hb3.mono (Nat.le_trans hb1.size hb2.size))⟩
    · have hcmp : decide (cmpN A B < 0) = false := decide_eq_false (by
        rcases Nat.lt_or_ge B A with h | h
        · rw [cmpN_gt h]; decide
        · rw [show A = B by omega, cmpN_eq]; decide)
      have HC := Lib.hid HC
      generalize cmpN A B = cm at *
      by_cases hone : (digs BB B).length = 1
      · have hB64 : B < BB := by have := (digs_length_le BB_two B 1).1 (by omega); simpa using this
        have HS := Lib.hid (fun w v (h : RdN w v (digs BB A)) => qsmall_any h dA (by omega) hB64)
        rw [val_digs BB_two] at HS
        unfold OneLE smallR at HS
        rw [if_neg hB] at HS
        have e1 := digs_one hone
        clear hBl hBn hone lb
        generalize digs BB B = sB at *
        subst e1
        have HOf := Lib.hid (fun w => of_num (w := w) (n := A % B) (by have := Nat.mod_lt A (Nat.pos_of_ne_zero hB); omega))
        clear hT
        go_enter Tryd.func50, Tryd.ntmps50
        go_wp2_with (first
          | (go_at_call 23; (with_reducible refine HA.mono ?_); rintro e w1 ⟨v1, rfl, hr1, hb1⟩; obtain ⟨a1, k1, rfl, -⟩ := hr1.view)
          | (go_at_call 23; (with_reducible refine (HB _ hb1).mono ?_); rintro e w2 ⟨v2, rfl, hr2, hb2⟩; obtain ⟨g2, o2, k2, rfl, hk2, hk3, hcell2⟩ := hr2.view1)
          | (go_at_call 17; (with_reducible refine (HC.out _ _ _ (hr1.below hb2) hr2).mono ?_); rintro e w3 ⟨rfl, hb3⟩; have hcell3 := below_cell hb3 hcell2)
          | (go_at_call 52; (with_reducible refine (HS.out _ _ ((hr1.below hb2).below hb3)).mono ?_); rintro e w4 ⟨v4, rfl, hv4, hb4⟩)
          | (go_at_call 32; (with_reducible refine (HOf.out _).mono ?_); rintro e w5 ⟨v5, rfl, hv5, hb5⟩))
        go_ret3
        exact ⟨_, _, rfl, hv4.below hb5, hv5, (((hb1.trans (hb2.mono hb1.size)).trans (hb3.mono (Nat.le_trans hb1.size hb2.size))).trans (hb4.mono (Nat.le_trans (Nat.le_trans hb1.size hb2.size) hb3.size))).trans (hb5.mono (Nat.le_trans (Nat.le_trans (Nat.le_trans hb1.size hb2.size) hb3.size) hb4.size))⟩
      · have HL := Lib.hid (fun w v u (hv : RdN w v (digs BB A)) (hu : RdN w u (digs BB B)) (hT : Tab w) => long_any hv hu dA dB la (by omega) ((digs_length_le BB_two B _).2 (Nat.lt_of_le_of_lt (by omega) ((digs_length_le BB_two A _).1 (Nat.le_refl _)))) (digs_top hB) hT)
        rw [val_digs BB_two, val_digs BB_two] at HL
        have hBn1 : ((digs BB B).length : Int) ≠ 1 := by omega
        generalize digs BB B = sB at *
        clear hT
        go_enter Tryd.func50, Tryd.ntmps50
        go_wp2_with (first
          | (go_at_call 23; (with_reducible refine HA.mono ?_); rintro e w1 ⟨v1, rfl, hr1, hb1⟩; obtain ⟨a1, k1, rfl, -⟩ := hr1.view)
          | (go_at_call 23; (with_reducible refine (HB _ hb1).mono ?_); rintro e w2 ⟨v2, rfl, hr2, hb2⟩; obtain ⟨a2, k2, rfl, -⟩ := hr2.view)
          | (go_at_call 17; (with_reducible refine (HC.out _ _ _ (hr1.below hb2) hr2).mono ?_); rintro e w3 ⟨rfl, hb3⟩)
          | (go_at_call 54; (with_reducible refine (HL.out _ _ _ ((hr1.below hb2).below hb3) (hr2.below hb3) (((HT.out.below hb1).below hb2).below hb3)).mono ?_); rintro e w4 ⟨v4, u4, rfl, hv4, hu4, hb4⟩))
        go_ret3
        exact ⟨_, _, rfl, hv4, hu4, ((hb1.trans (hb2.mono hb1.size)).trans (hb3.mono (Nat.le_trans hb1.size hb2.size))).trans (hb4.mono (Nat.le_trans (Nat.le_trans hb1.size hb2.size) hb3.size))⟩
end Go.Proofs.YtnoelffaccekjaaDoor
