/- quo.Div and quo.Up by their contracts. Conditions: the lists are short, the limbs are limbs, math/bits' table stands in its variable. -/
import Derived.Test.YtflkemcoomgoiaaDoorQuo14
import Derived.Test.YtflkemcoomgoiaaDoorCmpA
import Derived.Test.YtflkemcoomgoiaaDoorQuoC
namespace Go.Proofs.YtflkemcoomgoiaaDoor
set_option maxRecDepth 100000
open Go.RowKit

/-- What quo.Div tells. -/
def divR (A B : Nat) : Nat × Nat × Int := if B = 0 then (0, 0, 1) else (A / B, A % B, 0)
def TwoE (w : World) (r : Nat × Nat × Int) (e : Ending) (w' : World) : Prop :=
  ∃ v u, e = .returned (.tuple #[v, u, .int .i64 r.2.2]) ∧ RdN w' v (digs BB r.1) ∧ RdN w' u (digs BB r.2.1) ∧ Below w.heap.size w w'

theorem digs_one {B : Nat} (h : (digs BB B).length = 1) : digs BB B = [B] := by
  obtain ⟨x, hx⟩ := List.length_eq_one_iff.1 h
  have e := val_digs BB_two B
  rw [hx, val_one] at e
  rw [hx, e]

theorem digs_top {B : Nat} (h : B ≠ 0) : (digs BB B).getD ((digs BB B).length - 1) 0 ≠ 0 := by
  intro h0
  have hl : 0 < (digs BB B).length := List.length_pos_iff.2 (fun e => h ((digs_nil_iff BB_two B).1 e))
  have h1 := digs_low BB_two B ((digs BB B).length - 1) (by omega)
  have e := val_top1 (B := BB) (P := digs BB B) (n := (digs BB B).length - 1) (by omega)
  rw [h0, Nat.mul_zero, Nat.add_zero, val_digs BB_two] at e
  have h2 := val_lt ((dig_digs BB_two B).take ((digs BB B).length - 1))
  rw [List.length_take, Nat.min_eq_left (by omega)] at h2
  omega

theorem below_cell {w w' : World} {p : Addr} {u : Value} (h : Below w.heap.size w w') (hc : w.cell? p = some u) : w'.cell? p = some u :=
  (Fr.of_below (S := fun _ => False) h).at_cell hc (fun h => h)

theorem RdN.view1 {w : World} {v : Value} {x : Nat} (h : RdN w v [x]) : ∃ g off k, v = .slice (some ⟨g, off, none⟩) 1 k ∧ 1 ≤ k ∧ k ≤ 9223372036854775807 ∧ w.cell? ⟨g, off, none⟩ = some (L64 x) := by
  obtain ⟨a, c, rfl, h2, h3, -, h5⟩ := h.view
  obtain ⟨g, off, rfl, -, hc⟩ := h5 0 (Nat.lt_succ_self 0)
  exact ⟨g, off, c, rfl, h2, h3, hc⟩

set_option maxHeartbeats 1000000 in
theorem div_num {w : World} {v u : Value} {l m : List Nat} (hl : RdN w v l) (hm : RdN w u m) (hdl : Dig BB l) (hdm : Dig BB m) (h1 : l.length ≤ 50000) (h2 : m.length ≤ 50000) (hT : Tab w) :
    Calls Tryd.prog 63 #[v, u] w (TwoE w (divR (val BB l) (val BB m))) := by
  have HA := bare_num hl hdl (by omega)
  have HB := fun w' (hb : Below w.heap.size w w') => bare_num (hm.below hb) hdm (by omega)
  have la := digs_bound hdl h1 rfl
  have lb := digs_bound hdm h2 rfl
  generalize val BB l = A at *
  generalize val BB m = B at *
  have dA := dig_digs BB_two A
  have dB := dig_digs BB_two B
  have HC := fun w v u (hv : RdN w v (digs BB A)) (hu : RdN w u (digs BB B)) => cmp_any hv hu dA dB (by omega) (by omega)
  rw [val_digs BB_two, val_digs BB_two] at HC
  unfold TwoE divR
  have HT := Lib.hid hT
  by_cases hB : B = 0
  · subst hB
    rw [if_pos rfl]
    rw [digs_zero] at *
    clear HC hT
    go_enter Tryd.func63, Tryd.ntmps63
    go_wp2_with (first
      | (go_at_call 52; (with_reducible refine HA.mono ?_); rintro e w1 ⟨v1, rfl, hr1, hb1⟩; obtain ⟨a1, k1, rfl, -⟩ := hr1.view)
      | (go_at_call 52; (with_reducible refine (HB _ hb1).mono ?_); rintro e w2 ⟨v2, rfl, hr2, hb2⟩; obtain ⟨a2, k2, rfl, -⟩ := hr2.view))
    go_ret3
    exact ⟨_, _, rfl, RdN.nil _, RdN.nil _, hb1.trans (hb2.mono hb1.size)⟩
  · rw [if_neg hB]
    have hBl : 0 < (digs BB B).length := List.length_pos_iff.2 (fun e => hB ((digs_nil_iff BB_two B).1 e))
    have hBn : ((digs BB B).length : Int) ≠ 0 := by omega
    by_cases hlt : A < B
    · rw [Nat.div_eq_of_lt hlt, Nat.mod_eq_of_lt hlt, digs_zero]
      rw [cmpN_lt hlt] at HC
      have HC := Lib.hid HC
      generalize digs BB B = sB at *
      clear hT
      go_enter Tryd.func63, Tryd.ntmps63
      go_wp2_with (first
        | (go_at_call 52; (with_reducible refine HA.mono ?_); rintro e w1 ⟨v1, rfl, hr1, hb1⟩; obtain ⟨a1, k1, rfl, -⟩ := hr1.view)
        | (go_at_call 52; (with_reducible refine (HB _ hb1).mono ?_); rintro e w2 ⟨v2, rfl, hr2, hb2⟩; obtain ⟨a2, k2, rfl, -⟩ := hr2.view)
        | (go_at_call 67; (with_reducible refine (HC.out _ _ _ (hr1.below hb2) hr2).mono ?_); rintro e w3 ⟨rfl, hb3⟩))
      go_ret3
      exact ⟨_, _, rfl, RdN.nil _, (hr1.below hb2).below hb3, (hb1.trans (hb2.mono hb1.size)).trans (hb3.mono (Nat.le_trans hb1.size hb2.size))⟩
    · have hcmp : decide (cmpN A B < 0) = false := decide_eq_false (by
        rcases Nat.lt_or_ge B A with h | h
        · rw [cmpN_gt h]; decide
        · rw [show A = B by omega, cmpN_eq]; decide)
      have HC := Lib.hid HC
      generalize cmpN A B = cm at *
      by_cases hone : (digs BB B).length = 1
      · have hB64 : B < BB := by have := (digs_length_le BB_two B 1).1 (by omega); simpa using this
        have HS := Lib.hid (fun w v (h : RdN w v (digs BB A)) => qsmall_any h dA (by omega) hB64)
        rw [val_digs BB_two] at HS
        unfold OneLE smallR at HS
        rw [if_neg hB] at HS
        have e1 := digs_one hone
        clear hBl hBn hone lb
        generalize digs BB B = sB at *
        subst e1
        have HOf := Lib.hid (fun w => of_num (w := w) (n := A % B) (by have := Nat.mod_lt A (Nat.pos_of_ne_zero hB); omega))
        clear hT
        go_enter Tryd.func63, Tryd.ntmps63
        go_wp2_with (first
          | (go_at_call 52; (with_reducible refine HA.mono ?_); rintro e w1 ⟨v1, rfl, hr1, hb1⟩; obtain ⟨a1, k1, rfl, -⟩ := hr1.view)
          | (go_at_call 52; (with_reducible refine (HB _ hb1).mono ?_); rintro e w2 ⟨v2, rfl, hr2, hb2⟩; obtain ⟨g2, o2, k2, rfl, hk2, hk3, hcell2⟩ := hr2.view1)
          | (go_at_call 67; (with_reducible refine (HC.out _ _ _ (hr1.below hb2) hr2).mono ?_); rintro e w3 ⟨rfl, hb3⟩; have hcell3 := below_cell hb3 hcell2)
          | (go_at_call 87; (with_reducible refine (HS.out _ _ ((hr1.below hb2).below hb3)).mono ?_); rintro e w4 ⟨v4, rfl, hv4, hb4⟩)
          | (go_at_call 66; (with_reducible refine (HOf.out _).mono ?_); rintro e w5 ⟨v5, rfl, hv5, hb5⟩))
        go_ret3
        exact ⟨_, _, rfl, hv4.below hb5, hv5, (((hb1.trans (hb2.mono hb1.size)).trans (hb3.mono (Nat.le_trans hb1.size hb2.size))).trans (hb4.mono (Nat.le_trans (Nat.le_trans hb1.size hb2.size) hb3.size))).trans (hb5.mono (Nat.le_trans (Nat.le_trans (Nat.le_trans hb1.size hb2.size) hb3.size) hb4.size))⟩
      · have HL := Lib.hid (fun w v u (hv : RdN w v (digs BB A)) (hu : RdN w u (digs BB B)) (hT : Tab w) => long_any hv hu dA dB la (by omega) ((digs_length_le BB_two B _).2 (Nat.lt_of_le_of_lt (by omega) ((digs_length_le BB_two A _).1 (Nat.le_refl _)))) (digs_top hB) hT)
        rw [val_digs BB_two, val_digs BB_two] at HL
        have hBn1 : ((digs BB B).length : Int) ≠ 1 := by omega
        generalize digs BB B = sB at *
        clear hT
        go_enter Tryd.func63, Tryd.ntmps63
        go_wp2_with (first
          | (go_at_call 52; (with_reducible refine HA.mono ?_); rintro e w1 ⟨v1, rfl, hr1, hb1⟩; obtain ⟨a1, k1, rfl, -⟩ := hr1.view)
          | (go_at_call 52; (with_reducible refine (HB _ hb1).mono ?_); rintro e w2 ⟨v2, rfl, hr2, hb2⟩; obtain ⟨a2, k2, rfl, -⟩ := hr2.view)
          | (go_at_call 67; (with_reducible refine (HC.out _ _ _ (hr1.below hb2) hr2).mono ?_); rintro e w3 ⟨rfl, hb3⟩)
          | (go_at_call 88; (with_reducible refine (HL.out _ _ _ ((hr1.below hb2).below hb3) (hr2.below hb3) (((HT.out.below hb1).below hb2).below hb3)).mono ?_); rintro e w4 ⟨v4, u4, rfl, hv4, hu4, hb4⟩))
        go_ret3
        exact ⟨_, _, rfl, hv4, hu4, ((hb1.trans (hb2.mono hb1.size)).trans (hb3.mono (Nat.le_trans hb1.size hb2.size))).trans (hb4.mono (Nat.le_trans (Nat.le_trans hb1.size hb2.size) hb3.size))⟩
end Go.Proofs.YtflkemcoomgoiaaDoor

/- quo.Up and quo.Gcd by their contracts. Conditions: the lists are short, the limbs are limbs, math/bits' table stands in its variable. -/
namespace Go.Proofs.YtflkemcoomgoiaaDoor
set_option maxRecDepth 100000
open Go.RowKit

/-- What quo.Up tells. -/
def upR (A B : Nat) : Nat × Int := if B = 0 then (0, 1) else (A / B + (if A % B = 0 then 0 else 1), 0)

theorem digs_mono {a b : Nat} (h : a ≤ b) : (digs BB a).length ≤ (digs BB b).length :=
  (digs_length_le BB_two _ _).2 (Nat.lt_of_le_of_lt h ((digs_length_le BB_two _ _).1 (Nat.le_refl _)))
theorem div_len {A B k : Nat} (h : (digs BB A).length ≤ k) : (digs BB (A / B)).length ≤ k :=
  (digs_length_le BB_two _ _).2 (Nat.lt_of_le_of_lt (Nat.div_le_self _ _) ((digs_length_le BB_two _ _).1 h))

set_option maxHeartbeats 1000000 in
theorem up_num {w : World} {v u : Value} {l m : List Nat} (hl : RdN w v l) (hm : RdN w u m) (hdl : Dig BB l) (hdm : Dig BB m) (h1 : l.length ≤ 50000) (h2 : m.length ≤ 50000) (hT : Tab w) :
    Calls Tryd.prog 59 #[v, u] w (OneE w (upR (val BB l) (val BB m))) := by
  have HD := div_num hl hm hdl hdm h1 h2 hT
  have la := digs_bound hdl h1 rfl
  generalize val BB l = A at *
  generalize val BB m = B at *
  unfold TwoE divR at HD
  unfold OneE upR
  by_cases hB : B = 0
  · rw [if_pos hB] at *
    go_enter Tryd.func59, Tryd.ntmps59
    go_wp2_with (go_at_call 63; (with_reducible refine HD.mono ?_); rintro e w1 ⟨v1, u1, rfl, hv1, hu1, hb1⟩)
    go_ret2
    exact ⟨_, rfl, hv1, hb1⟩
  · rw [if_neg hB] at *
    have HAd := Lib.hid (fun w v u (h : RdN w v (digs BB (A / B))) (h2 : RdN w u (digs BB 1)) => add_num h h2 (dig_digs BB_two 1) (div_len la) (by decide))
    rw [val_digs BB_two] at HAd
    have HOf := Lib.hid (fun w => show Calls Tryd.prog 66 #[.int .u64 1] w (One w (digs BB 1)) from of_num (w := w) (n := 1) (by decide))
    by_cases hr : A % B = 0
    · rw [if_pos hr, Nat.add_zero]
      rw [hr, digs_zero] at HD
      go_enter Tryd.func59, Tryd.ntmps59
      go_wp2_with (go_at_call 63; (with_reducible refine HD.mono ?_); rintro e w1 ⟨v1, u1, rfl, hv1, hu1, hb1⟩; obtain ⟨a1, k1, rfl, -⟩ := hu1.view)
      go_ret2
      exact ⟨_, rfl, hv1, hb1⟩
    · rw [if_neg hr]
      have hrl : 0 < (digs BB (A % B)).length := List.length_pos_iff.2 (fun e => hr ((digs_nil_iff BB_two _).1 e))
      have hrn : ((digs BB (A % B)).length : Int) ≠ 0 := by omega
      generalize digs BB (A % B) = sR at *
      go_enter Tryd.func59, Tryd.ntmps59
      go_wp2_with (first
        | (go_at_call 63; (with_reducible refine HD.mono ?_); rintro e w1 ⟨v1, u1, rfl, hv1, hu1, hb1⟩; obtain ⟨a1, k1, rfl, -⟩ := hu1.view)
        | (go_at_call 66; (with_reducible refine (HOf.out _).mono ?_); rintro e w2 ⟨v2, rfl, hv2, hb2⟩)
        | (go_at_call 81; (with_reducible refine (HAd.out _ _ _ (hv1.below hb2) hv2).mono ?_); rintro e w3 ⟨v3, rfl, hv3, hb3⟩))
      go_ret2
      exact ⟨_, rfl, hv3, (hb1.trans (hb2.mono hb1.size)).trans (hb3.mono (Nat.le_trans hb1.size hb2.size))⟩

/-- A slice reads as one list alone. -/
theorem RdN.inj {w : World} {v : Value} {l m : List Nat} (h : RdN w v l) (k : RdN w v m) : l = m := by
  obtain ⟨a, c, rfl, -, -, -, h5⟩ := h.view
  obtain ⟨a', c', e, -, -, -, k5⟩ := k.view
  injection e with e1 e2 e3
  subst e1
  apply List.ext_getElem e2
  intro i h1 h2
  obtain ⟨g, off, ea, -, hc⟩ := h5 i h1
  obtain ⟨g', off', ea', -, hc'⟩ := k5 i h2
  rw [ea] at ea'
  injection ea' with ea'
  injection ea' with e1 e4
  subst e1 e4
  rw [hc, List.getElem?_eq_getElem h1, List.getElem?_eq_getElem h2] at hc'
  injection hc' with hc'
  simp at hc'
  omega

/-- The number that a slice reads as. -/
noncomputable def numOf (w : World) (v : Value) : Nat := Classical.epsilon (fun y => RdN w v (digs BB y))
theorem numOf_eq {w : World} {v : Value} {y : Nat} (h : RdN w v (digs BB y)) : numOf w v = y :=
  digs_inj BB_two ((Classical.epsilon_spec (p := fun y => RdN w v (digs BB y)) ⟨y, h⟩).inj h)

end Go.Proofs.YtflkemcoomgoiaaDoor

/- Slices that read as a number, by its value alone: what nat.Sub and quo tell of them. Conditions: at most 40000 limbs; math/bits' table stands in its variable. -/
namespace Go.Proofs.YtflkemcoomgoiaaDoor
set_option maxRecDepth 100000
open Go.RowKit Go.ChangeShapes Go.WideShapes

theorem sub_n {w : World} {v u : Value} {A B C : Nat} (h : Num w v A) (k : Num w u B) (e : B + C = A) : Calls Tryd.prog 86 #[v, u] w (OneZ w C) := by
  obtain ⟨l, h1, h2, h3, rfl⟩ := h
  obtain ⟨m, k1, k2, k3, rfl⟩ := k
  have := sub_any h1 k1 h2 k2 (by omega) (by omega)
  unfold subR at this
  rw [if_neg (by omega), show val BB l - val BB m = C by omega] at this
  exact this
theorem sub_under {w : World} {v u : Value} {A B : Nat} (h : Num w v A) (k : Num w u B) (e : A < B) : Calls Tryd.prog 86 #[v, u] w (fun e w' => ∃ v, e = .returned (.tuple #[v, .int .i64 1]) ∧ RdN w' v (digs BB 0) ∧ Below w.heap.size w w') := by
  obtain ⟨l, h1, h2, h3, rfl⟩ := h
  obtain ⟨m, k1, k2, k3, rfl⟩ := k
  have := sub_any h1 k1 h2 k2 (by omega) (by omega)
  unfold subR at this
  rw [if_pos e] at this
  exact this
/-- Two numbers told, and errno 0. -/
def TwoZ (w : World) (q r : Nat) (e : Ending) (w' : World) : Prop := ∃ v u, e = .returned (.tuple #[v, u, .int .i64 0]) ∧ RdN w' v (digs BB q) ∧ RdN w' u (digs BB r) ∧ Below w.heap.size w w'
theorem div_n {w : World} {v u : Value} {A B Q R : Nat} (h : Num w v A) (k : Num w u B) (hT : Tab w) (h0 : B ≠ 0) (e1 : A / B = Q) (e2 : A % B = R) : Calls Tryd.prog 63 #[v, u] w (TwoZ w Q R) := by
  obtain ⟨l, h1, h2, h3, rfl⟩ := h
  obtain ⟨m, k1, k2, k3, rfl⟩ := k
  have := div_num h1 k1 h2 k2 (by omega) (by omega) hT
  unfold divR at this
  rw [if_neg h0, e1, e2] at this
  exact this
theorem up_n {w : World} {v u : Value} {A B U : Nat} (h : Num w v A) (k : Num w u B) (hT : Tab w) (h0 : B ≠ 0) (e : A / B + (if A % B = 0 then 0 else 1) = U) : Calls Tryd.prog 59 #[v, u] w (OneZ w U) := by
  obtain ⟨l, h1, h2, h3, rfl⟩ := h
  obtain ⟨m, k1, k2, k3, rfl⟩ := k
  have := up_num h1 k1 h2 k2 (by omega) (by omega) hT
  unfold upR at this
  rw [if_neg h0, e] at this
  exact this
theorem small_n {w : World} {v : Value} {A n Q R : Nat} (h : Num w v A) (hn : n < BB) (h0 : n ≠ 0) (e1 : A / n = Q) (e2 : A % n = R) : Calls Tryd.prog 87 #[v, L64 n] w (fun e w' => ∃ v, e = .returned (.tuple #[v, L64 R, .int .i64 0]) ∧ RdN w' v (digs BB Q) ∧ Below w.heap.size w w') := by
  obtain ⟨l, h1, h2, h3, rfl⟩ := h
  have := qsmall_any (n := n) h1 h2 (by omega) hn
  unfold smallR at this
  rw [if_neg h0, e1, e2] at this
  exact this
end Go.Proofs.YtflkemcoomgoiaaDoor

/- nat.Shl by its contract. Conditions: the list is short, the limbs are limbs. -/
namespace Go.Proofs.YtflkemcoomgoiaaDoor
set_option maxRecDepth 100000
open Go.RowKit

/-- What nat.Shl tells. -/
def shlR (A : Nat) (n : Int) : Nat × Int := if n < 0 then (0, 1) else if A = 0 then (0, 0) else if 65536 - (bitN A : Int) < n then (0, 2) else (A * 2 ^ n.toNat, 0)

theorem or_low' {c x s : Nat} (hs : s ≤ 64) (hc : c < 2 ^ s) : bits .or .u64 ((x * 2 ^ s % BB : Nat) : Int) (c : Int) = ((x * 2 ^ s % BB + c : Nat) : Int) ∧ x * 2 ^ s % BB + c < 18446744073709551616 := by
  obtain ⟨h1, h2⟩ := or_low (x := x) hs hc
  have h3 : c < 2 ^ 64 := Nat.lt_of_lt_of_le hc (Nat.pow_le_pow_right (by omega) hs)
  have h4 : x * 2 ^ s % BB < 2 ^ 64 := by rw [← BB_pow]; exact Nat.mod_lt _ BB_pos
  rw [(bits_nat .u64 64 (by decide) (fun n h0 h1 => by rw [IntKind.wrap_u64]; omega) c _ h3 h4).2] at h1
  rw [(bits_nat .u64 64 (by decide) (fun n h0 h1 => by rw [IntKind.wrap_u64]; omega) _ c h4 h3).2, Nat.or_comm]
  exact ⟨by rw [h1, Nat.add_comm], by omega⟩

/-- The limb at a place that may be below. -/
def limbZ (l : List Nat) (i : Int) : Nat := if i < 0 then 0 else l.getD i.toNat 0
theorem limbZ_nat (l : List Nat) (k : Nat) : limbZ l (k : Int) = l.getD k 0 := by unfold limbZ; rw [if_neg (by omega)]; rfl
theorem limbZ_neg (l : List Nat) {i : Int} (h : i < 0) : limbZ l i = 0 := by unfold limbZ; rw [if_pos h]
theorem limbZ_lt {l : List Nat} (hd : Dig BB l) (i : Int) : limbZ l i < BB := by
  unfold limbZ; split
  · decide
  · exact hd.getD BB_pos _

/-- One limb of a number that is shifted up. -/
theorem shl_limb {l : List Nat} (hd : Dig BB l) {n wh pt k : Nat} {j : Int} (hn : n = 64 * wh + pt) (hp : pt < 64) (hj : (k : Int) - (wh : Int) = j) :
    val BB l * 2 ^ n / BB ^ k % BB = limbZ l j * 2 ^ pt % BB + limbZ l (j - 1) / 2 ^ (64 - pt) ∧ limbZ l (j - 1) / 2 ^ (64 - pt) < 2 ^ pt := by
  have hPR : 2 ^ pt * 2 ^ (64 - pt) = BB := by rw [← Nat.pow_add, show pt + (64 - pt) = 64 by omega, BB_pow]
  have hP : 0 < 2 ^ pt := Nat.pow_pos (by omega)
  have hlt : limbZ l (j - 1) / 2 ^ (64 - pt) < 2 ^ pt := by
    rw [Nat.div_lt_iff_lt_mul (Nat.pow_pos (by omega)), hPR]; exact limbZ_lt hd _
  refine ⟨?_, hlt⟩
  have e0 : 2 ^ n = BB ^ wh * 2 ^ pt := by rw [hn, Nat.pow_add, Nat.pow_mul, BB_pow]
  by_cases h1 : k < wh
  · rw [limbZ_neg l (by omega), limbZ_neg l (by omega), Nat.zero_mul, Nat.zero_mod, Nat.zero_div]
    obtain ⟨d, rfl⟩ : ∃ d, wh = k + 1 + d := ⟨wh - k - 1, by omega⟩
    rw [e0, show val BB l * (BB ^ (k + 1 + d) * 2 ^ pt) = BB ^ k * (BB * (val BB l * BB ^ d * 2 ^ pt)) by
      rw [Nat.pow_add, Nat.pow_succ]; simp only [Nat.mul_assoc, Nat.mul_comm, Nat.mul_left_comm], Nat.mul_div_cancel_left _ (Nat.pow_pos BB_pos), Nat.mul_mod_right]
  · obtain ⟨i, rfl⟩ : ∃ i, k = wh + i := ⟨k - wh, by omega⟩
    obtain rfl : j = (i : Int) := by omega
    have e1 : val BB l * 2 ^ n / BB ^ (wh + i) = val BB l * 2 ^ pt / BB ^ i := by
      rw [e0, Nat.pow_add, show val BB l * (BB ^ wh * 2 ^ pt) = BB ^ wh * (val BB l * 2 ^ pt) by rw [Nat.mul_left_comm], Nat.mul_div_mul_left _ _ (Nat.pow_pos BB_pos)]
    rw [e1, limbZ_nat]
    by_cases h2 : i = 0
    · subst h2
      rw [limbZ_neg l (by omega), Nat.pow_zero, Nat.div_one, Nat.zero_div, Nat.add_zero]
      have := val_drop_any BB l 0
      rw [List.drop_zero] at this
      rw [this, Nat.add_mul, Nat.mul_assoc, Nat.add_mul_mod_self_left]
    · obtain ⟨i, rfl⟩ : ∃ t, i = t + 1 := ⟨i - 1, by omega⟩
      rw [show ((i + 1 : Nat) : Int) - 1 = (i : Int) by omega, limbZ_nat]
      by_cases h3 : pt = 0
      · subst h3
        rw [Nat.pow_zero, Nat.mul_one, Nat.mul_one, val_div BB_pos hd, val_drop_any, Nat.add_mul_mod_self_left]
        have hx := hd.getD BB_pos i
        rw [Nat.div_eq_of_lt (show l.getD i 0 < 2 ^ (64 - 0) by rw [Nat.sub_zero, ← BB_pow]; exact hx)]; rfl
      · have e2 : val BB l * 2 ^ pt / BB ^ (i + 1) = val BB l / 2 ^ (64 * i + (64 - pt)) := by
          have : BB ^ (i + 1) = 2 ^ (64 * i + (64 - pt)) * 2 ^ pt := by
            rw [Nat.pow_succ, ← hPR, Nat.pow_add, Nat.pow_mul, hPR, BB_pow, Nat.mul_assoc, ← Nat.pow_add, show 64 - pt + pt = 64 by omega]
          rw [this, Nat.mul_div_mul_right _ _ hP]
        have h4 := (shr_limb hd (n := 64 * i + (64 - pt)) (k := 0) rfl (by omega)).1
        rw [Nat.pow_zero, Nat.div_one, Nat.zero_add, show 64 - (64 - pt) = pt by omega] at h4
        rw [e2, h4, Nat.add_comm]

set_option maxRecDepth 100000 in
set_option maxHeartbeats 1000000 in
theorem shl_any {w : World} {v : Value} {l : List Nat} {i : Int} (hl : RdN w v l) (hdl : Dig BB l) (h1 : l.length ≤ 100000) (hi : i ≤ 9223372036854775807) (hi' : -9223372036854775808 ≤ i) :
    Calls Tryd.prog 65 #[v, .int .i64 i] w (OneE w (shlR (val BB l) i)) := by
  obtain ⟨i0, hi0, hz0, hz1, hz2⟩ := info_parts infoU
  have HA := bare_num hl hdl h1
  have la := digs_bound hdl h1 rfl
  generalize val BB l = A at *
  have dA := dig_digs BB_two A
  have eA := val_digs BB_two A
  have gA := digs_bits (n := A) la
  have HbA := Lib.hid (fun (w : World) v (h1 : RdN w v (digs BB A)) => bits_num h1 dA la)
  rw [eA] at HbA
  unfold OneE shlR
  by_cases hneg : i < 0
  · rw [if_pos hneg]
    go_enter Tryd.func65, Tryd.ntmps65
    go_wp2_with (go_at_call 52; (with_reducible refine HA.mono ?_); rintro e w1 ⟨v1, rfl, hr, hb1⟩)
    go_ret2
    exact ⟨_, rfl, RdN.nil0 _, hb1⟩
  · rw [if_neg hneg]
    by_cases h0 : A = 0
    · rw [if_pos h0]
      rw [h0, digs_zero] at HA
      have hnd : decide (i < 0) = false := decide_eq_false hneg
      go_enter Tryd.func65, Tryd.ntmps65
      go_wp2_with (go_at_call 52; (with_reducible refine HA.mono ?_); rintro e w1 ⟨v1, rfl, hr, hb1⟩; obtain ⟨a1, k1, rfl, -⟩ := hr.view)
      go_ret2
      exact ⟨_, rfl, RdN.nil0 _, hb1⟩
    · rw [if_neg h0]
      have hsl : 0 < (digs BB A).length := List.length_pos_iff.2 (fun e => h0 ((digs_nil_iff BB_two _).1 e))
      have hsn : ((digs BB A).length : Int) ≠ 0 := by omega
      obtain ⟨b, hb⟩ : ∃ b, bitN A = b := ⟨_, rfl⟩
      rw [hb] at HbA gA ⊢
      by_cases hbig : 65536 - (b : Int) < i
      · rw [if_pos hbig]
        generalize digs BB A = s at *
        go_enter Tryd.func65, Tryd.ntmps65
        go_wp2_with (first
          | (go_at_call 52; (with_reducible refine HA.mono ?_); rintro e w1 ⟨v1, rfl, hr, hb1⟩; obtain ⟨a1, k1, rfl, -⟩ := hr.view)
          | (go_at_call 30; (with_reducible refine (HbA.out _ _ hr).mono ?_); rintro e w2 ⟨rfl, hb2⟩))
        go_ret2
        exact ⟨_, rfl, RdN.nil0 _, hb1.trans (hb2.mono hb1.size)⟩
      · rw [if_neg hbig]
        obtain ⟨n, rfl⟩ := Int.eq_ofNat_of_zero_le (show 0 ≤ i by omega)
        rw [Int.toNat_natCast]
        obtain ⟨wh, hwh2⟩ : ∃ x, n / 64 = x := ⟨_, rfl⟩
        obtain ⟨pt, hpt⟩ : ∃ x, n % 64 = x := ⟨_, rfl⟩
        have hnw : n = 64 * wh + pt := by omega
        have hpt64 : pt < 64 := by omega
        have hwI2 : (n : Int).tdiv 64 = (wh : Int) := by rw [Int.tdiv_eq_ediv_of_nonneg (by omega)]; omega
        have hpI2 : (n : Int).tmod 64 = (pt : Int) := by rw [Int.tmod_eq_emod_of_nonneg (by omega)]; omega
        have hAm : A * 2 ^ n < BB ^ ((digs BB A).length + wh + 1) := by
          have h2 := (digs_length_le BB_two A (digs BB A).length).1 (Nat.le_refl _)
          have h3 : 2 ^ n ≤ BB ^ (wh + 1) := by
            rw [BB_pow, ← Nat.pow_mul]; exact Nat.pow_le_pow_right (by omega) (by omega)
          rw [Nat.add_assoc, Nat.pow_add]
          exact Nat.lt_of_lt_of_le (Nat.mul_lt_mul_of_pos_right h2 (Nat.pow_pos (by omega))) (Nat.mul_le_mul_left _ h3)
        have hs1 : (digs BB A).length ≤ 1024 := digs_short (k := 1024) (by omega)
        have hlimb := fun (k : Nat) (j : Int) (hj : (k : Int) - (wh : Int) = j) => shl_limb (l := digs BB A) dA (k := k) hnw hpt64 hj
        rw [eA] at hlimb
        have hlimb := Lib.hid hlimb
        generalize digs BB A = s at *
        obtain ⟨m, hm, hm2⟩ : ∃ m : Nat, ((s.length : Int) + (wh : Int) + 1) = (m : Int) ∧ s.length + wh + 1 = m := ⟨s.length + wh + 1, by omega, rfl⟩
        rw [hm2] at hAm
        have HAM := Lib.hid hAm
        have HNW := Lib.hid hnw
        have hn16 : n ≤ 65536 := by omega
        have hwh1 : wh ≤ 1024 := by omega
        have hm3 : m ≤ 2100 := by omega
        clear hAm hwh2 hpt hnw
        go_enter Tryd.func65, Tryd.ntmps65
        go_wp2_with (first
          | (go_at_call 52; (with_reducible refine HA.mono ?_); rintro e w1 ⟨v1, rfl, hr, hb1⟩; obtain ⟨a1, k1, rfl, -⟩ := hr.view)
          | (go_at_call 30; (with_reducible refine (HbA.out _ _ hr).mono ?_); rintro e w2 ⟨rfl, hb2⟩)
          | (at_make; go_loud (refine wpList_make_full _ rfl (.tmp 34) (.tmp 34) 22 rfl w2.heap.size 41 i0 (.int .u64 0) 1 Tryd.underlying22 hi0 hz0 hz1 .i64 .i64 m m m ?_ ?_ rfl rfl ?_ ?_ ?_ ?_; (any_goals (first | rfl | (rw [hz2]; omega) | (unfold maxLen; omega) | (with_reducible exact Nat.le_refl _))); intro w0 hown0 hgrow0)))
        rw [made_zero] at hown0
        have B2 := hb1.trans (hb2.mono hb1.size)
        have HS := Lib.hid (show ShrRel w2 (A * 2 ^ n) m 0 (List.replicate m 0) w0 from ⟨Nat.zero_le _, by simp, Dig.replicate BB_pos _, by rw [List.take_zero, val_nil, Nat.pow_zero, Nat.mod_one], hown0, (Below.refl _ _).grown hgrow0 (Nat.le_refl _) (by simp)⟩)
        have HR2 := Lib.hid (hr.below hb2)
        clear hown0 hgrow0
        go_loopw [38] (fun i wr => ∃ (k : Nat) (X : List Nat), i = .int .i64 k ∧ ShrRel w2 (A * 2 ^ n) m k X wr) (fun i _ => m - (intOf i).toNat)
        case atStart => exact ⟨0, _, rfl, HS.out⟩
        case round =>
          clear HS
          obtain ⟨k, X, rfl, hR⟩ := hrel
          have HR := Lib.hid hR
          have hk := hR.le; have hXl := hR.len; have hB := hR.below
          have B3 := B2.trans (hB.mono B2.size)
          by_cases hkm : k < m
          · obtain ⟨j, hj⟩ : ∃ t : Int, (k : Int) - (wh : Int) = t := ⟨_, rfl⟩
            have hjl : j ≤ 200000 := by omega
            have hjg : -2000 ≤ j := by omega
            have RD := (HR2.out.below hB).below (below_drewN (Below.refl _ _) 1)
            have HLa := limb_any RD (i := j) (by omega) (by omega)
            have HLb := limb_any RD (i := j - 1) (by omega) (by omega)
            change Calls _ _ _ _ (fun e w' => e = .returned (L64 (limbZ s j)) ∧ _) at HLa
            change Calls _ _ _ _ (fun e w' => e = .returned (L64 (limbZ s (j - 1))) ∧ _) at HLb
            have hlim := hlimb.out k j hj
            have hca := hR.own.cellAt k (by omega)
            rw [List.getElem?_map, List.getElem?_eq_getElem (by omega), Option.map_some, ← getD_lt] at hca
            have hfr := hR.own.frozenAt k
            obtain ⟨hor, hob⟩ := or_low' (x := limbZ s j) (show pt ≤ 64 by omega) hlim.2
            have hYI : IntKind.u64.wrap ((limbZ s j : Int) * 2 ^ pt) = ((limbZ s j * 2 ^ pt % BB : Nat) : Int) := by rw [IntKind.wrap_u64, show BB = 18446744073709551616 from rfl]; simp
            have hXI : (limbZ s (j - 1) : Int) / 2 ^ (64 - pt) = ((limbZ s (j - 1) / 2 ^ (64 - pt) : Nat) : Int) := by simp
            have hx := limbZ_lt dA (j - 1)
            have hxb : limbZ s (j - 1) / 2 ^ (64 - pt) ≤ limbZ s (j - 1) := Nat.div_le_self _ _
            have HST := Lib.hid ((hR.drewN 1).step hkm hlim.1.symm)
            clear hR hlim
            generalize limbZ s (j - 1) / 2 ^ (64 - pt) = xl at *
            generalize limbZ s j * 2 ^ pt % BB = yl at *
            generalize limbZ s (j - 1) = x at *
            generalize limbZ s j = y at *
            generalize X.getD k 0 = o at *
            obtain ⟨t, ht⟩ : ∃ t, yl + xl = t := ⟨_, rfl⟩
            rw [ht] at hor hob HST
            clear ht
            have hx64 : x < 18446744073709551616 := hx
            have hm1 : min pt 64 = pt := by omega
            have hm2 : min ((64 : Int) - (pt : Int)).toNat 64 = 64 - pt := by omega
            have hW1 : IntKind.u64.wrap (t : Int) = (t : Int) := by rw [IntKind.wrap_u64]; omega
            have hW2 : IntKind.u64.wrap (xl : Int) = (xl : Int) := by rw [IntKind.wrap_u64]; omega
            have hW3 : IntKind.i64.wrap (j - 1) = j - 1 := by rw [IntKind.wrap_i64]; omega
            have hW4 : IntKind.i64.wrap (64 - (pt : Int)) = 64 - (pt : Int) := by rw [IntKind.wrap_i64]; omega
            have HLa := Lib.hid HLa; have HLb := Lib.hid HLb
            go_wp2
            go_still_tail 15, (by kernel_rfl)
            still_call HLa.out
            repeat still_step
            still_call HLb.out
            repeat still_step
            refine wpStill_nil ?_
            change wpList _ _ _ _ _ wr.drew
            have hca2 : wr.drew.cell? ⟨w2.heap.size, k, none⟩ = some (L64 o) := hca
            have hfr2 : wr.drew.frozen? ⟨w2.heap.size, k, none⟩ = false := hfr
            change Hid (ShrRel w2 _ m (k + 1) _ (wr.drew.setCell _ _)) at HST
            clear hca hfr HLa HLb RD
            generalize wr.drew = w3 at *
            go_wp2
            go_round
            case rel => exact ⟨k + 1, _, by go_num, HST.out⟩
            case measure => simp [intOf]; omega
          · have hkl : k = m := by omega
            subst hkl
            have E := hR.fin HAM.out
            have RX : RdN _ _ X := Rd.of_own hR.own (fun _ _ => trivial)
            clear hR
            go_wp2_with (go_at_call 52; (with_reducible refine (bare_any RX ?_).mono ?_); (focus omega); rintro e w4 ⟨v4, rfl, hr4, hb4⟩)
            go_ret2
            rw [E] at hr4
            exact ⟨_, rfl, hr4, B3.trans (hb4.mono B3.size)⟩
end Go.Proofs.YtflkemcoomgoiaaDoor

/- Slices that read as a number, by its value alone: Shl, Shr, Pow, Times. Conditions: at most 40000 limbs. -/
namespace Go.Proofs.YtflkemcoomgoiaaDoor
set_option maxRecDepth 100000
open Go.RowKit Go.ChangeShapes Go.WideShapes

theorem shl_n {w : World} {v : Value} {A n C : Nat} (h : Num w v A) (e : A * 2 ^ n = C) (hn : n + bitN A ≤ 65536) : Calls Tryd.prog 65 #[v, .int .i64 n] w (OneZ w C) := by
  obtain ⟨l, h1, h2, h3, rfl⟩ := h
  subst e
  have := shl_any h1 h2 (i := (n : Int)) (by omega) (by omega) (by omega)
  unfold shlR at this
  rw [if_neg (by omega)] at this
  by_cases h0 : val BB l = 0
  · rw [if_pos h0] at this
    rw [h0, Nat.zero_mul]; exact this
  · rw [if_neg h0, if_neg (by omega), Int.toNat_natCast] at this
    exact this
theorem times_n {w : World} {v : Value} {A n C : Nat} (h : Num w v A) (hn : n < BB) (e : A * n = C) (hs : bitN A + bitN n ≤ 65536) : Calls Tryd.prog 95 #[v, L64 n] w (OneZ w C) := by
  obtain ⟨l, h1, h2, h3, rfl⟩ := h
  subst e
  have := times_any h1 h2 (by omega) hn
  rw [mulR_small hs] at this
  exact this
theorem of_n {w : World} {n : Nat} (hn : n < BB) : Calls Tryd.prog 66 #[L64 n] w (One w (digs BB n)) := of_num hn
theorem of_1 {w : World} : Calls Tryd.prog 66 #[.int .u64 1] w (One w (digs BB 1)) := of_one
end Go.Proofs.YtflkemcoomgoiaaDoor
