/- nat.Bits by the number's own bits, prod.Mul and prod.Times by their contracts. Conditions: the lists are short, the limbs are limbs. -/
import Derived.Test.YtnoelffaccekjaaDoorNat6
import Derived.Test.YtnoelffaccekjaaDoorBit
namespace Go.Proofs.YtnoelffaccekjaaDoor
open Go.RowKit

theorem BB_pow : BB = 2 ^ 64 := by decide

theorem bits_num {w : World} {v : Value} {l : List Nat} (h : RdN w v l) (hd : Dig BB l) (hl : l.length ≤ 100000) :
    Calls Tryd.prog 21 #[v] w (fun e w' => e = .returned (.int .i64 (bitN (val BB l) : Nat)) ∧ Below w.heap.size w w') := by
  refine (bits_any h hd hl).mono ?_
  rintro e w' ⟨rfl, hb⟩
  refine ⟨?_, hb⟩
  have := bits_val (p := 64) (by omega) (l := l) (by rw [← BB_pow]; exact hd)
  rw [← BB_pow] at this
  rw [← this]
  by_cases hs : strip l = []
  · rw [if_pos hs, if_pos hs]
  · rw [if_neg hs, if_neg hs, bitLen_bitN _ (by rw [← BB_pow]; exact Dig.getD (by rw [strip_eq BB_two hd]; exact dig_digs BB_two _) BB_pos _)]

/-- What a function that hands back one number and an error leaves. -/
def OneE (w : World) (r : Nat × Int) (e : Ending) (w' : World) : Prop :=
  ∃ v, e = .returned (.tuple #[v, .int .i64 r.2]) ∧ RdN w' v (digs BB r.1) ∧ Below w.heap.size w w'

theorem RdN.nil (w : World) : RdN w (.slice none 0 0) [] := Rd.nil _ _
theorem RdN.nil0 (w : World) : RdN w (.slice none 0 0) (digs BB 0) := by rw [digs_zero]; exact Rd.nil _ _

theorem digs_short {n k : Nat} (h : bitN n ≤ 64 * k) : (digs BB n).length ≤ k := by
  rw [digs_length_le BB_two, BB_pow, ← Nat.pow_mul]
  exact bitN_le.1 h

theorem digs_bits {n k : Nat} (h : (digs BB n).length ≤ k) : bitN n ≤ 64 * k := by
  rw [digs_length_le BB_two, BB_pow, ← Nat.pow_mul] at h
  exact bitN_le.2 h

theorem len_ne {l : List Nat} (h : l ≠ []) : ((l.length : Int) == 0) = false := by
  have := List.length_pos_iff.2 h
  exact beq_eq_false_iff_ne.2 (by omega)

/-- What prod.Mul tells. -/
def mulR (A B : Nat) : Nat × Int := if A = 0 ∨ B = 0 then (0, 0) else if 65536 < bitN A + bitN B then (0, 2) else (A * B, 0)

theorem bare_num {w : World} {v : Value} {l : List Nat} (h : RdN w v l) (hd : Dig BB l) (hl : l.length ≤ 100000) :
    Calls Tryd.prog 23 #[v] w (One w (digs BB (val BB l))) := by
  rw [← strip_eq BB_two hd]; exact bare_any h hl

theorem digs_bound {n k : Nat} {l : List Nat} (hd : Dig BB l) (h : l.length ≤ k) (hn : n = val BB l) : (digs BB n).length ≤ k := by
  rw [hn, ← strip_eq BB_two hd]
  exact Nat.le_trans (strip_length_le l) h

set_option maxHeartbeats 800000 in
theorem mul_any {w : World} {v u : Value} {l m : List Nat} (hl : RdN w v l) (hm : RdN w u m) (hdl : Dig BB l) (hdm : Dig BB m) (h1 : l.length ≤ 100000) (h2 : m.length ≤ 100000) :
    Calls Tryd.prog 55 #[v, u] w (OneE w (mulR (val BB l) (val BB m))) := by
  have HA := bare_num hl hdl h1
  have HB := fun w' (hb : Below w.heap.size w w') => bare_num (hm.below hb) hdm h2
  have la := digs_bound hdl h1 rfl
  have lb := digs_bound hdm h2 rfl
  generalize val BB l = A at HA la ⊢
  generalize val BB m = B at HB lb ⊢
  have HB := Lib.hid HB
  have dA := dig_digs BB_two A
  have dB := dig_digs BB_two B
  have eA := val_digs BB_two A
  have eB := val_digs BB_two B
  have nA := digs_nil_iff BB_two A
  have nB := digs_nil_iff BB_two B
  clear hl hm hdl hdm h1 h2
  unfold mulR
  by_cases hA : A = 0
  · rw [if_pos (Or.inl hA)]
    rw [nA.2 hA] at HA
    clear nA nB eA eB dA dB
    go_enter Tryd.func55, Tryd.ntmps55
    go_wp2_with (first
      | (go_at_call 23; (with_reducible refine HA.mono ?_); rintro e w1 ⟨v1, rfl, hr, hb⟩; obtain ⟨a, c, rfl, h2, h3, h4, hc⟩ := hr.view; clear hr hc)
      | (go_at_call 23; (with_reducible refine (HB.out _ hb).mono ?_); rintro e w2 ⟨v2, rfl, hr2, hb2⟩; obtain ⟨a2, c2, rfl, k2, k3, k4, kc⟩ := hr2.view; clear hr2 kc))
    go_ret2
    exact ⟨_, rfl, RdN.nil0 _, hb.trans (hb2.mono hb.size)⟩
  · by_cases hB : B = 0
    · rw [if_pos (Or.inr hB)]
      have d0 : (((digs BB A).length : Int) == 0) = false := by
        exact len_ne (fun h => hA (nA.1 h))
      have HB := fun w' hb => HB.out w' hb
      rw [nB.2 hB] at HB
      have HB := Lib.hid HB
      clear nA nB eA eB dA dB
      generalize digs BB A = s at *
      go_enter Tryd.func55, Tryd.ntmps55
      go_wp2_with (first
        | (go_at_call 23; (with_reducible refine HA.mono ?_); rintro e w1 ⟨v1, rfl, hr, hb⟩; obtain ⟨a, c, rfl, h2, h3, h4, hc⟩ := hr.view; clear hr hc)
        | (go_at_call 23; (with_reducible refine (HB.out _ hb).mono ?_); rintro e w2 ⟨v2, rfl, hr2, hb2⟩; obtain ⟨a2, c2, rfl, k2, k3, k4, kc⟩ := hr2.view; clear hr2 kc))
      go_ret2
      exact ⟨_, rfl, RdN.nil0 _, hb.trans (hb2.mono hb.size)⟩
    · have d0 : (((digs BB A).length : Int) == 0) = false := by
        exact len_ne (fun h => hA (nA.1 h))
      have d1 : (((digs BB B).length : Int) == 0) = false := by
        exact len_ne (fun h => hB (nB.1 h))
      rw [if_neg (by omega)]
      generalize hDA : digs BB A = s at *
      generalize hDB : digs BB B = t at *
      have gA := digs_bits (n := A) (by rw [hDA]; exact la)
      have gB := digs_bits (n := B) (by rw [hDB]; exact lb)
      have HP := Lib.hid (fun (h : bitN A + bitN B ≤ 65536) (w : World) v u (h1 : RdN w v s) (h2 : RdN w u t) => product_any h1 h2 dA dB (by rw [← hDA]; exact digs_short (by omega)) (by rw [← hDB]; exact digs_short (by omega)))
      have HbA := Lib.hid (fun (w : World) v (h1 : RdN w v s) => bits_num h1 dA la)
      have HbB := Lib.hid (fun (w : World) v (h1 : RdN w v t) => bits_num h1 dB lb)
      rw [eA, eB] at HP; rw [eA] at HbA; rw [eB] at HbB
      clear nA nB eA eB dA dB hDA hDB
      by_cases hbig : 65536 < bitN A + bitN B
      · rw [if_pos hbig]
        go_enter Tryd.func55, Tryd.ntmps55
        go_wp2_with (first
          | (go_at_call 23; (with_reducible refine HA.mono ?_); rintro e w1 ⟨v1, rfl, hr, hb⟩; obtain ⟨a, c, rfl, h2, h3, h4, hc⟩ := hr.view; have hr := Lib.hid hr; clear hc)
          | (go_at_call 23; (with_reducible refine (HB.out _ hb).mono ?_); rintro e w2 ⟨v2, rfl, hr2, hb2⟩; obtain ⟨a2, c2, rfl, k2, k3, k4, kc⟩ := hr2.view; have hr2 := Lib.hid hr2; clear kc)
          | (go_at_call 21; (with_reducible refine (HbA.out _ _ (hr.out.below hb2)).mono ?_); rintro e w3 ⟨rfl, hb3⟩)
          | (go_at_call 21; (with_reducible refine (HbB.out _ _ (hr2.out.below hb3)).mono ?_); rintro e w4 ⟨rfl, hb4⟩))
        go_ret2
        have B2 := hb.trans (hb2.mono hb.size)
        have B3 := B2.trans (hb3.mono B2.size)
        exact ⟨_, rfl, RdN.nil0 _, B3.trans (hb4.mono B3.size)⟩
      · rw [if_neg hbig]
        have HP := Lib.hid (HP.out (by omega))
        go_enter Tryd.func55, Tryd.ntmps55
        go_wp2_with (first
          | (go_at_call 23; (with_reducible refine HA.mono ?_); rintro e w1 ⟨v1, rfl, hr, hb⟩; obtain ⟨a, c, rfl, h2, h3, h4, hc⟩ := hr.view; have hr := Lib.hid hr; clear hc)
          | (go_at_call 23; (with_reducible refine (HB.out _ hb).mono ?_); rintro e w2 ⟨v2, rfl, hr2, hb2⟩; obtain ⟨a2, c2, rfl, k2, k3, k4, kc⟩ := hr2.view; have hr2 := Lib.hid hr2; clear kc)
          | (go_at_call 21; (with_reducible refine (HbA.out _ _ (hr.out.below hb2)).mono ?_); rintro e w3 ⟨rfl, hb3⟩)
          | (go_at_call 21; (with_reducible refine (HbB.out _ _ (hr2.out.below hb3)).mono ?_); rintro e w4 ⟨rfl, hb4⟩)
          | (go_at_call 34; (with_reducible refine (HP.out _ _ _ ((hr.out.below hb2).below hb3 |>.below hb4) ((hr2.out.below hb3).below hb4)).mono ?_); rintro e w5 ⟨v5, rfl, hr5, hb5⟩))
        go_ret2
        have B2 := hb.trans (hb2.mono hb.size)
        have B3 := B2.trans (hb3.mono B2.size)
        have B4 := B3.trans (hb4.mono B3.size)
        exact ⟨_, rfl, hr5, B4.trans (hb5.mono B4.size)⟩
end Go.Proofs.YtnoelffaccekjaaDoor
