/- quo.left by its contract: the walk. Conditions: the list is short, the limbs are limbs, the shift is less than a limb. -/
import Derived.Test.YtnoelffaccekjaaDoorQuo7
import Derived.StillTailTactics
namespace Go.Proofs.YtnoelffaccekjaaDoor
open Go.RowKit

/-- What left leaves: a row of its own. -/
def LeftEnd (w : World) (l : List Nat) (s : Nat) (e : Ending) (w' : World) : Prop :=
  e = .returned (.slice (some ⟨w.heap.size, 0, none⟩) (l.length + 1) (l.length + 1)) ∧ ∃ X, X.length = l.length + 1 ∧ Dig BB X ∧ val BB X = val BB l * 2 ^ s ∧
    w'.ownsRow w.heap.size 33 1 (.slice (some ⟨w.heap.size, 0, none⟩) (l.length + 1) (l.length + 1)) (l.length + 1) (X.map L64) ∧ Below w.heap.size w w'

theorem or_low {c x s : Nat} (hs : s ≤ 64) (hc : c < 2 ^ s) : bits .or .u64 (c : Int) ((x * 2 ^ s % BB : Nat) : Int) = ((c + x * 2 ^ s % BB : Nat) : Int) ∧ c + x * 2 ^ s % BB < 18446744073709551616 := by
  have hPR : 2 ^ s * 2 ^ (64 - s) = BB := by rw [← Nat.pow_add, show s + (64 - s) = 64 by omega, BB_pow]
  have e : x * 2 ^ s % BB = 2 ^ s * (x % 2 ^ (64 - s)) := by
    rw [← hPR, Nat.mul_comm x, Nat.mul_mod_mul_left]
  have hm := Nat.mod_lt x (Nat.pow_pos (n := 64 - s) (show 0 < 2 by omega))
  have hlt : 2 ^ s * (x % 2 ^ (64 - s)) + 2 ^ s ≤ BB := by
    have := Nat.mul_le_mul_left (2 ^ s) (show x % 2 ^ (64 - s) + 1 ≤ 2 ^ (64 - s) from hm)
    rw [Nat.mul_add, hPR] at this; omega
  have hBB : BB = 18446744073709551616 := rfl
  have h1 : c < 2 ^ 64 := by
    have := Nat.pow_le_pow_right (n := 2) (by omega) (show s ≤ 64 by omega)
    exact Nat.lt_of_lt_of_le hc this
  have h2 : 2 ^ s * (x % 2 ^ (64 - s)) < 2 ^ 64 := by rw [← BB_pow]; omega
  rw [e, (bits_nat .u64 64 (by decide) (fun n h0 h1 => by rw [IntKind.wrap_u64]; omega) c _ h1 h2).2, Nat.or_comm, ← Nat.two_pow_add_eq_or_of_lt hc, Nat.add_comm]
  exact ⟨rfl, by omega⟩

set_option maxHeartbeats 800000 in
theorem left_any {w : World} {v : Value} {l : List Nat} {s : Nat} (hl : RdN w v l) (hdl : Dig BB l) (h1 : l.length ≤ 100000) (hs : s ≤ 63) :
    Calls Tryd.prog 58 #[v, .int .i64 s] w (LeftEnd w l s) := by
  obtain ⟨a, c, rfl, hac, hc, -, -⟩ := hl.view
  obtain ⟨i0, hi, hz0, hz1, hz2⟩ := info_parts infoU
  have HL := Lib.hid hl; clear hl
  obtain ⟨n, hn, hn1⟩ : ∃ n : Nat, ((l.length : Int) + 1) = (n : Int) ∧ l.length + 1 = n := ⟨l.length + 1, by omega, rfl⟩
  unfold LeftEnd
  rw [hn1]
  have HN := Lib.hid hn1
  go_enter Tryd.func58, Tryd.ntmps58
  go_wp2_with (at_make; go_loud (refine wpList_make_full _ rfl (.tmp 10) (.tmp 10) 22 rfl w.heap.size 33 i0 (.int .u64 0) 1 Tryd.underlying22 hi hz0 hz1 .i64 .i64 n n n ?_ ?_ rfl rfl ?_ ?_ ?_ ?_; (any_goals (first | rfl | (rw [hz2]; omega) | (unfold maxLen; omega) | (with_reducible exact Nat.le_refl _))); intro w0 hown0 hgrow0))
  rw [made_zero] at hown0
  have hst : LeftRel w l s 0 (List.replicate n 0) w0 := ⟨Nat.zero_le _, by simp [hn1], Dig.replicate BB_pos _, by rw [replicate_getD]; exact Nat.pow_pos (by omega), by
    have h := val_take_le BB (List.replicate n 0) (0 + 1)
    rw [val_replicate] at h
    rw [Nat.le_zero.1 h]; simp, by rw [hn1]; exact hown0, (Below.refl _ _).grown hgrow0 (Nat.le_refl _) (by simp)⟩
  have HST := Lib.hid hst; clear hst hown0 hgrow0
  go_loopw [14] (fun i wr => ∃ (k : Nat) (X : List Nat), i = .int .i64 k ∧ LeftRel w l s k X wr) (fun i _ => l.length - (intOf i).toNat)
  case atStart => exact ⟨0, _, rfl, HST.out⟩
  case round =>
    obtain ⟨k, X, rfl, hR⟩ := hrel
    have HR := Lib.hid hR
    have hk := hR.le; have hXl := hR.len; have hB := hR.below
    by_cases hkn : k < l.length
    · obtain ⟨a', c', e1, -, -, -, hc2⟩ := (HL.out.below hB).view
      injection e1 with e1 e2 e3; subst e1 e3
      obtain ⟨g, of, rfl, hg, hcell⟩ := hc2 k hkn
      rw [← List.getD_eq_getElem?_getD] at hcell
      clear hc2 e2
      have hca := hR.own.cellAt k (by omega)
      rw [List.getElem?_map, List.getElem?_eq_getElem (by omega), Option.map_some, ← getD_lt] at hca
      have hfr := hR.own.frozenAt k
      have hcb := hR.own.cellAt (k + 1) (by omega)
      rw [List.getElem?_map, List.getElem?_eq_getElem (by omega), Option.map_some, ← getD_lt] at hcb
      have hfb := hR.own.frozenAt (k + 1)
      have HS := Lib.hid (fun d => (hR.drewN d).step hs hdl hkn)
      have HS0 := Lib.hid (hR.step hs hdl hkn)
      clear hR
      have hx := hdl.getD BB_pos k
      obtain ⟨hor, hob⟩ := or_low (x := l.getD k 0) (show s ≤ 64 by omega) HR.out.low
      have hXI : IntKind.u64.wrap ((l.getD k 0 : Int) * 2 ^ s) = ((l.getD k 0 * 2 ^ s % BB : Nat) : Int) := by rw [IntKind.wrap_u64, show BB = 18446744073709551616 from rfl]; simp
      have hLI : (l.getD k 0 : Int) / 2 ^ (64 - s) = ((l.getD k 0 / 2 ^ (64 - s) : Nat) : Int) := by simp
      have hLb : l.getD k 0 / 2 ^ (64 - s) ≤ l.getD k 0 := Nat.div_le_self _ _
      generalize l.getD k 0 * 2 ^ s % BB = lo at *
      generalize l.getD k 0 / 2 ^ (64 - s) = hi' at *
      generalize l.getD k 0 = x at *
      generalize X.getD k 0 = cx at *
      generalize X.getD (k + 1) 0 = cy at *
      obtain ⟨t, ht⟩ : ∃ t, cx + lo = t := ⟨_, rfl⟩
      rw [ht] at hor hob HS HS0
      clear ht
      have hx64 : x < 18446744073709551616 := hx
      have hkN : k < n := by omega
      have hkN1 : k + 1 < n := by omega
      have hm1 : min s 64 = s := by omega
      have hm2 : min ((64 : Int) - (s : Int)).toNat 64 = 64 - s := by omega
      have hW1 : IntKind.u64.wrap (t : Int) = (t : Int) := by rw [IntKind.wrap_u64]; omega
      go_wp2
      go_still_tail 8, (by kernel_rfl)
      change wpList _ _ _ _ _ wr.drew
      have hca2 : wr.drew.cell? ⟨w.heap.size, k, none⟩ = some (L64 cx) := hca
      have hfr2 : wr.drew.frozen? ⟨w.heap.size, k, none⟩ = false := hfr
      have hcb2 : wr.drew.cell? ⟨w.heap.size, k + 1, none⟩ = some (L64 cy) := hcb
      have hfb2 : wr.drew.frozen? ⟨w.heap.size, k + 1, none⟩ = false := hfb
      have HS1 := HS.out 1
      change LeftRel w l s (k + 1) _ ((wr.drew.setCell _ _).setCell _ _) at HS1
      have HS1 := Lib.hid HS1
      clear hca hfr hcb hfb HS HS0
      generalize wr.drew = w2 at *
      go_wp2
      go_round
      case rel => exact ⟨k + 1, _, by go_num, HS1.out⟩
      case measure => simp [intOf]; omega
    · have hkl : k = l.length := by omega
      subst hkl
      have hv := hR.fin
      have RX := Lib.hid hR; clear hR
      go_wp2
      go_ret
      exact ⟨rfl, X, by rw [hXl, HN.out], RX.out.dig, hv, by rw [← HN.out]; exact RX.out.own, hB⟩
end Go.Proofs.YtnoelffaccekjaaDoor
