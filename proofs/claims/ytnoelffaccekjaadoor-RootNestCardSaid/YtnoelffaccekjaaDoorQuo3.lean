/- quo.Small by its contract. Conditions: the list is short, the limbs are limbs. -/
import Derived.Test.YtnoelffaccekjaaDoorQuo2
import Derived.Test.YtnoelffaccekjaaDoorRef3
import Derived.Deep.RegionWith
namespace Go.Proofs.YtnoelffaccekjaaDoor
open Go.RowKit

/-- The loop's relation in Small: p limbs are still to come. -/
structure SmRel (w : World) (l : List Nat) (n p rest : Nat) (X : List Nat) (wr : World) : Prop where
  le : p ≤ l.length
  small : rest < n
  len : X.length = l.length
  dig : Dig BB X
  sum : val BB (X.drop p) * n + rest = val BB (l.drop p)
  own : wr.ownsRow w.heap.size 33 1 (.slice (some ⟨w.heap.size, 0, none⟩) l.length l.length) l.length (X.map L64)
  below : Below w.heap.size w wr
theorem SmRel.drewN {w wr : World} {l X : List Nat} {n p rest : Nat} (h : SmRel w l n p rest X wr) (d : Nat) : SmRel w l n p rest X (wr.drewN d) := ⟨h.le, h.small, h.len, h.dig, h.sum, h.own, below_drewN h.below d⟩

theorem drop_set_self (l : List Nat) (i x : Nat) (h : i < l.length) : (l.set i x).drop i = x :: l.drop (i + 1) := by
  rw [List.drop_eq_getElem_cons (by rw [List.length_set]; exact h), List.getElem_set_self, List.drop_set_of_lt (by omega)]

theorem SmRel.step {w wr : World} {l X : List Nat} {n i rest : Nat} (h : SmRel w l n (i + 1) rest X wr) (hd : Dig BB l) :
    SmRel w l n i ((rest * BB + l.getD i 0) % n) (X.set i ((rest * BB + l.getD i 0) / n)) (wr.setCell ⟨w.heap.size, i, none⟩ (L64 ((rest * BB + l.getD i 0) / n))) := by
  have hle := h.le
  have hn : 0 < n := Nat.lt_of_le_of_lt (Nat.zero_le _) h.small
  have hx := hd.getD BB_pos i
  have hq := quo_small h.small hx
  have e := Nat.mod_add_div (rest * BB + l.getD i 0) n
  refine ⟨by omega, Nat.mod_lt _ hn, by rw [List.length_set]; exact h.len, h.dig.set _ hq, ?_, by rw [List.map_set]; exact (h.own.stored i _).1, h.below.setCell (Nat.le_refl _) _⟩
  have hs := h.sum
  generalize (rest * BB + l.getD i 0) / n = q at *
  generalize (rest * BB + l.getD i 0) % n = r at *
  rw [drop_set_self X i _ (by rw [h.len]; omega), val_cons, val_drop_succ BB l i (by omega), ← hs, Nat.add_mul, Nat.mul_add, Nat.mul_assoc]
  rw [Nat.mul_comm rest BB] at e
  rw [Nat.mul_comm n q] at e
  omega

theorem SmRel.fin {w wr : World} {l X : List Nat} {n rest : Nat} (h : SmRel w l n 0 rest X wr) : strip X = digs BB (val BB l / n) ∧ rest = val BB l % n := by
  have hs := h.sum
  rw [List.drop_zero, List.drop_zero] at hs
  have hn : 0 < n := Nat.lt_of_le_of_lt (Nat.zero_le _) h.small
  have hd : val BB l / n = val BB X := by
    rw [← hs, Nat.mul_comm, Nat.mul_add_div hn, Nat.div_eq_of_lt h.small, Nat.add_zero]
  have hm : val BB l % n = rest := by
    rw [← hs, Nat.mul_comm, Nat.mul_add_mod, Nat.mod_eq_of_lt h.small]
  exact ⟨by rw [strip_eq BB_two h.dig, hd], hm.symm⟩

/-- What a function leaves that hands back a number, a limb and an error. -/
def OneLE (w : World) (r : Nat × Nat × Int) (e : Ending) (w' : World) : Prop :=
  ∃ v, e = .returned (.tuple #[v, L64 r.2.1, .int .i64 r.2.2]) ∧ RdN w' v (digs BB r.1) ∧ Below w.heap.size w w'
/-- What quo.Small tells. -/
def smallR (A n : Nat) : Nat × Nat × Int := if n = 0 then (0, 0, 1) else (A / n, A % n, 0)

set_option maxHeartbeats 800000 in
theorem qsmall_any {w : World} {v : Value} {l : List Nat} {n : Nat} (hl : RdN w v l) (hdl : Dig BB l) (h1 : l.length ≤ 100000) (hn : n < BB) :
    Calls Tryd.prog 52 #[v, L64 n] w (OneLE w (smallR (val BB l) n)) := by
  obtain ⟨a, c, rfl, hac, hc, -, -⟩ := hl.view
  obtain ⟨i0, hi, hz0, hz1, hz2⟩ := info_parts infoU
  have HL := Lib.hid hl; clear hl
  have hn64 : n < 18446744073709551616 := hn
  unfold smallR
  by_cases h0 : n = 0
  · subst h0
    rw [if_pos rfl]
    go_enter Tryd.func52, Tryd.ntmps52
    go_wp2
    go_ret3
    exact ⟨_, rfl, RdN.nil0 _, Below.refl _ _⟩
  · rw [if_neg h0]
    have hz : ((n : Int) == 0) = false := beq_eq_false_iff_ne.2 (by omega)
    go_enter Tryd.func52, Tryd.ntmps52
    go_wp2_with (at_make; go_loud (refine wpList_make_full _ rfl (.tmp 13) (.tmp 13) 22 rfl w.heap.size 33 i0 (.int .u64 0) 1 Tryd.underlying22 hi hz0 hz1 .i64 .i64 l.length l.length l.length rfl rfl rfl rfl ?_ ?_ ?_ ?_; (any_goals (first | rfl | (rw [hz2]; omega) | (unfold maxLen; omega) | (with_reducible exact Nat.le_refl _))); intro w0 hown0 hgrow0))
    rw [made_zero] at hown0
    have HS := Lib.hid (show SmRel w l n l.length 0 (List.replicate l.length 0) w0 from ⟨Nat.le_refl _, by omega, by simp, Dig.replicate BB_pos _, by rw [List.drop_eq_nil_of_le (by simp), List.drop_eq_nil_of_le (by simp)]; simp, hown0, (Below.refl _ _).grown hgrow0 (Nat.le_refl _) (by simp)⟩)
    clear hown0 hgrow0
    go_loopw [8, 9] (fun rest i wr => ∃ (p r : Nat) (q : Int) (X : List Nat), i = .int .i64 q ∧ q + 1 = p ∧ rest = L64 r ∧ SmRel w l n p r X wr) (fun _ i _ => (intOf i + 1).toNat)
    case atStart => exact ⟨l.length, 0, _, _, rfl, by omega, rfl, HS.out⟩
    case round =>
      obtain ⟨p, r, q, X, rfl, hq, rfl, hR⟩ := hrel
      have HR := Lib.hid hR
      have hp := hR.le; have hrn := hR.small; have hXl := hR.len
      have hB := hR.below
      by_cases hp0 : p = 0
      · subst hp0
        obtain rfl : q = -1 := by omega
        obtain ⟨E, Er⟩ := hR.fin
        have RX := Lib.hid (show RdN wr _ X from Rd.of_own hR.own (fun _ _ => trivial))
        clear hR
        go_wp2_with (go_at_call 23; (with_reducible refine (bare_any RX.out (by omega)).mono ?_); rintro e w3 ⟨v3, rfl, hr, hb3⟩)
        go_ret3
        rw [E] at hr
        exact ⟨_, rfl, hr, hB.trans (hb3.mono hB.size)⟩
      · obtain ⟨i, rfl⟩ : ∃ i, p = i + 1 := ⟨p - 1, by omega⟩
        obtain rfl : q = (i : Int) := by omega
        have hil : i < l.length := hp
        obtain ⟨a1, c1, e1, -, -, -, hcx⟩ := (HL.out.below hB).view
        injection e1 with e1 e2 e3; subst e1 e3
        obtain ⟨g, of, rfl, hg, hcx⟩ := hcx i hil
        rw [← List.getD_eq_getElem?_getD] at hcx
        clear e2
        have hca := hR.own.cellAt i (by omega)
        rw [List.getElem?_map, List.getElem?_eq_getElem (by omega), Option.map_some, ← getD_lt] at hca
        have hfr := hR.own.frozenAt i
        have hx := hdl.getD BB_pos i
        have HS2 := Lib.hid (fun d => (hR.drewN d).step hdl)
        clear hR
        generalize X.getD i 0 = o at hca
        generalize l.getD i 0 = x at *
        have HD := Lib.hid (fun w => div_any (w := w) (l := x) hrn hn64 hx)
        obtain ⟨qq, hqq⟩ : ∃ t, (r * BB + x) / n = t := ⟨_, rfl⟩
        obtain ⟨rr, hrr⟩ : ∃ t, (r * BB + x) % n = t := ⟨_, rfl⟩
        rw [hqq, hrr] at HD HS2
        clear hqq hrr
        go_wp2_with (go_at_call 56; (with_reducible refine (HD.out _).mono ?_); rintro e w1 ⟨rfl, nd, rfl⟩; have hca2 : (wr.drewN nd).cell? ⟨w.heap.size, i, none⟩ = some (L64 o) := hca; have hfr2 : (wr.drewN nd).frozen? ⟨w.heap.size, i, none⟩ = false := hfr)
        go_round
        case rel => exact ⟨i, rr, (i : Int) - 1, _, rfl, by omega, rfl, HS2.out _⟩
        case measure => simp [intOf]
end Go.Proofs.YtnoelffaccekjaaDoor
