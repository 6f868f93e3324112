/- math/bits.Div64 by its contract: the walk. Conditions: the high half is below the divisor. -/
import Derived.Test.YtnoelffaccekjaaDoorQuo1
import Derived.BigQuiet
import Derived.Deep.DeepCutAuto
import Derived.Deep.CutBlock
import Derived.Deep.QuietTactic
namespace Go.Proofs.YtnoelffaccekjaaDoor
open Go.RowKit

theorem nn_eq {u x1 x0 x10 M NN b c : Nat} (hc : b * b = c) (h1 : u * b + x1 = M) (h2 : x1 * b + x0 = x10) (h3 : x10 + c * u = NN) : M * b + x0 = NN := by
  rw [← h3, ← h2, ← h1, ← hc, Nat.add_mul, Nat.mul_comm (b * b) u, Nat.mul_assoc]; omega
theorem two_step {M b x0 Y N Q U : Nat} (hY : 0 < Y) (hN : M * b + x0 = N) (hQ : M / Y = Q) (hU : M % Y = U) : N / Y = Q * b + (U * b + x0) / Y ∧ N % Y = (U * b + x0) % Y := by
  have e := Nat.mod_add_div M Y
  rw [hQ, hU] at e
  have e2 : N = U * b + x0 + Y * (Q * b) := by
    rw [← hN, ← e, Nat.add_mul, Nat.mul_assoc]; omega
  rw [e2, Nat.add_mul_div_left _ _ hY, Nat.add_mul_mod_self_left]
  exact ⟨by omega, rfl⟩
theorem quo_small {u b x Y : Nat} (hu : u < Y) (hx : x < b) : (u * b + x) / Y < b := by
  rw [Nat.div_lt_iff_lt_mul (by omega)]
  have := Nat.mul_le_mul_right b (show u + 1 ≤ Y from hu)
  rw [Nat.add_mul] at this; rw [Nat.mul_comm b Y]; omega

set_option maxRecDepth 100000 in
set_option maxHeartbeats 2000000 in
theorem div_any {w : World} {h l y : Nat} (hy : h < y) (hy2 : y < 18446744073709551616) (hl : l < 18446744073709551616) :
    Calls Tryd.prog 56 #[L64 h, L64 l, L64 y] w (fun e w' => e = .returned (.tuple #[L64 ((h * BB + l) / y), L64 ((h * BB + l) % y)]) ∧ ∃ n, w' = w.drewN n) := by
  have y0 : ((y : Int) == 0) = false := beq_eq_false_iff_ne.2 (by omega)
  have yh : decide ((y : Int) ≤ (h : Int)) = false := decide_eq_false (by omega)
  by_cases hh : h = 0
  · subst hh
    rw [Nat.zero_mul, Nat.zero_add]
    have e1 : (l : Int).tdiv (y : Int) = ((l / y : Nat) : Int) := by rw [Int.tdiv_eq_ediv_of_nonneg (by omega)]; rfl
    have e2 : (l : Int).tmod (y : Int) = ((l % y : Nat) : Int) := by rw [Int.tmod_eq_emod_of_nonneg (by omega)]; rfl
    have b1 : l / y ≤ l := Nat.div_le_self _ _
    have b2 : l % y ≤ l := Nat.mod_le _ _
    obtain ⟨q, hq⟩ : ∃ q, l / y = q := ⟨_, rfl⟩
    obtain ⟨r, hr⟩ : ∃ r, l % y = r := ⟨_, rfl⟩
    rw [hq] at e1 b1 ⊢
    rw [hr] at e2 b2 ⊢
    have e1' : (l : Int) / (y : Int) = (q : Int) := by rw [← hq]; rfl
    have e2' : (l : Int) % (y : Int) = (r : Int) := by rw [← hr]; rfl
    clear hq hr
    go_enter Tryd.func56, Tryd.ntmps56
    go_wp2_with (go_quiet (fail))
    go_ret2
    exact ⟨rfl, nq, rfl⟩
  · have h0 : ((h : Int) == 0) = false := beq_eq_false_iff_ne.2 (by omega)
    obtain ⟨s, hs⟩ : ∃ s, 64 - bitN y = s := ⟨_, rfl⟩
    have HLZ := Lib.hid (lz_any (w := w) hy2)
    rw [hs] at HLZ
    obtain ⟨hs63, hY1, hY2⟩ := shift_top (by omega) hy2 hs
    have hPR : 2 ^ s * 2 ^ (64 - s) = 18446744073709551616 := by rw [← Nat.pow_add, show s + (64 - s) = 64 by omega]
    have hN := shift_num (h := h) (l := l) hPR
    have hP : 0 < 2 ^ s := Nat.pow_pos (by omega)
    have hR : 0 < 2 ^ (64 - s) := Nat.pow_pos (by omega)
    have hH := Nat.mul_le_mul_right (2 ^ s) (show h + 1 ≤ y from hy)
    rw [Nat.add_mul, Nat.one_mul] at hH
    have hL : l / 2 ^ (64 - s) < 2 ^ s := by
      rw [Nat.div_lt_iff_lt_mul hR, hPR]; exact hl
    have hor := or_parts (h := h) (l := l) hs63 (by omega) hl
    have hYI : (y : Int) * 2 ^ s = ((y * 2 ^ s : Nat) : Int) := by simp
    have hHI : (h : Int) * 2 ^ s = ((h * 2 ^ s : Nat) : Int) := by simp
    have hLI : (l : Int) / 2 ^ (64 - s) = ((l / 2 ^ (64 - s) : Nat) : Int) := by simp
    have hXI : IntKind.u64.wrap ((l : Int) * 2 ^ s) = ((l * 2 ^ s % 18446744073709551616 : Nat) : Int) := by rw [IntKind.wrap_u64]; simp
    have hm1 : min s 64 = s := by omega
    have hm2 : min ((64 : Int) - (s : Int)).toNat 64 = 64 - s := by omega
    -- what comes out in the end
    have hfin : (h * 18446744073709551616 + l) * 2 ^ s / (y * 2 ^ s) = (h * 18446744073709551616 + l) / y ∧ (h * 18446744073709551616 + l) * 2 ^ s % (y * 2 ^ s) / 2 ^ s = (h * 18446744073709551616 + l) % y := by
      rw [Nat.mul_div_mul_right _ _ hP, Nat.mul_mod_mul_right, Nat.mul_div_cancel _ hP]
      exact ⟨rfl, rfl⟩
    unfold BB
    rw [← hfin.1, ← hfin.2]
    have eN := Nat.mod_add_div ((h * 18446744073709551616 + l) * 2 ^ s) 18446744073709551616
    rw [hN.1, hN.2] at eN
    generalize (h * 18446744073709551616 + l) * 2 ^ s = NN at *
    generalize y * 2 ^ s = Y at *
    have hx10 : l * 2 ^ s % 18446744073709551616 < 18446744073709551616 := Nat.mod_lt _ (by omega)
    generalize l * 2 ^ s % 18446744073709551616 = x10 at *
    generalize h * 2 ^ s = H at *
    generalize l / 2 ^ (64 - s) = L at *
    obtain ⟨u, hu⟩ : ∃ u, H + L = u := ⟨_, rfl⟩
    rw [hu] at hor eN
    have huY : u < Y := by omega
    obtain ⟨d1, hd1⟩ : ∃ d, Y / 4294967296 = d := ⟨_, rfl⟩
    obtain ⟨d0, hd0⟩ : ∃ d, Y % 4294967296 = d := ⟨_, rfl⟩
    obtain ⟨x1, hx1⟩ : ∃ d, x10 / 4294967296 = d := ⟨_, rfl⟩
    obtain ⟨x0, hx0⟩ : ∃ d, x10 % 4294967296 = d := ⟨_, rfl⟩
    have hl1 := low_half Y hY2
    have hl2 := low_half x10 hx10
    rw [hd0] at hl1; rw [hx0] at hl2
    have hD1 : (Y : Int) / 4294967296 = (d1 : Int) := by omega
    have hX1 : (x10 : Int) / 4294967296 = (x1 : Int) := by omega
    have hYd : d1 * 4294967296 + d0 = Y := by rw [← hd1, ← hd0, Nat.mul_comm]; exact Nat.div_add_mod _ _
    have hxd : x1 * 4294967296 + x0 = x10 := by rw [← hx1, ← hx0, Nat.mul_comm]; exact Nat.div_add_mod _ _
    have bd1 : 2147483648 ≤ d1 := by omega
    have bd2 : d1 < 4294967296 := by omega
    have bd0 : d0 < 4294967296 := by omega
    have bx1 : x1 < 4294967296 := by omega
    have bx0 : x0 < 4294967296 := by omega
    have bH : H < 18446744073709551616 := by omega
    have bL : L < 18446744073709551616 := by omega
    have hrel := HalfRel.start bd1 bd2 bd0 (by omega : u < d1 * 4294967296 + d0) bx1
    have hqd : (u / d1) * d1 ≤ u := Nat.div_mul_le_self u d1
    obtain ⟨q, hq⟩ : ∃ q, u / d1 = q := ⟨_, rfl⟩
    rw [hq] at hrel hqd
    have hQ : (u : Int) / (d1 : Int) = (q : Int) := by rw [← hq]; rfl
    have hQ' : (u : Int).tdiv (d1 : Int) = (q : Int) := by rw [Int.tdiv_eq_ediv_of_nonneg (by omega)]; exact hQ
    obtain ⟨qd, hqd2⟩ : ∃ c, q * d1 = c := ⟨_, rfl⟩
    rw [hqd2] at hrel hqd
    have hQD : (q : Int) * (d1 : Int) = (qd : Int) := by rw [← hqd2, Int.natCast_mul]
    obtain ⟨r, hr⟩ : ∃ r, u - qd = r := ⟨_, rfl⟩
    have hRR : (u : Int) - (qd : Int) = (r : Int) := by omega
    rw [hr] at hrel
    have bq := hrel.most
    have br := hrel.small
    have d1z : ((d1 : Int) == 0) = false := beq_eq_false_iff_ne.2 (by omega)
    have HR := Lib.hid hrel; clear hrel
    clear hs hH hN hd1 hd0 hx1 hx0 hq hqd2 hPR
    go_enter Tryd.func56, Tryd.ntmps56
    obtain ⟨M, hM⟩ : ∃ M, u * 4294967296 + x1 = M := ⟨_, rfl⟩
    have hQb := quo_small huY bx1
    rw [hM] at hQb
    have HMM := Lib.hid hM
    clear hM
    go_upto_block 0 with (go_at_call 57; (with_reducible refine HLZ.out.mono ?_); rintro e w1 ⟨rfl, rfl⟩)
    go_cut [15, 16] (fun q r wx => (∃ r', r = .int .u64 r') ∧ q = .int .u64 ((M / Y : Nat) : Int) ∧ wx = w1)
    case first =>
      clear hfin eN hor hYI hHI hLI hXI hm1 hm2 hP hR hL hh hy hl hy2 yh y0 h0 hu hxd hl1 hl2 hD1 hX1 hQ hQ' hQD hRR hr hqd hx10 bH bL bq br HLZ
      go_wp2
      go_loopw [15, 16] (fun q r wr => ∃ q' r' : Nat, q = .int .u64 q' ∧ r = .int .u64 r' ∧ HalfRel d1 d0 u x1 q' r' ∧ wr = w1) (fun q _ _ => (intOf q).toNat)
      case atStart => exact ⟨q, r, rfl, rfl, HR.out, rfl⟩
      case round =>
        clear HR
        obtain ⟨q, r, rfl, rfl, hR, rfl⟩ := hrel
        have HR := Lib.hid hR
        have bq := hR.most; have br := hR.small
        clear hR
        obtain ⟨z, hz⟩ : ∃ z, q * d0 = z := ⟨_, rfl⟩
        have hzb : z ≤ 18446744073709551615 := by rw [← hz]; exact Nat.mul_le_mul bq (show d0 ≤ 4294967295 by omega)
        have hzI : (q : Int) * (d0 : Int) = (z : Int) := by rw [← hz, Int.natCast_mul]
        by_cases hc : 4294967296 ≤ q ∨ 4294967296 * r + x1 < q * d0
        · obtain ⟨p, hqp0, he, hU, hp⟩ := HR.out.down (by rw [hYd]; exact huY) bx1 hc
          have hqp : (q : Int) - 1 = (p : Int) := by omega
          have hq1 : 1 ≤ q := by omega
          rw [hz] at hc
          have HE := Lib.hid (And.intro he hU)
          have HM := Lib.hid (show p < q ∧ p ≤ 4294967296 from ⟨by omega, hp⟩)
          clear he hU hz hqp0
          obtain ⟨t, ht⟩ : ∃ t, r + d1 = t := ⟨_, rfl⟩
          have htI : (r : Int) + (d1 : Int) = (t : Int) := by omega
          have htb : t ≤ 8589934592 := by omega
          rw [ht] at HE
          clear ht hp
          have hgo : (decide ((4294967296 : Int) ≤ (q : Int)) = true) ∨ (decide ((4294967296 : Int) ≤ (q : Int)) = false ∧ decide ((4294967296 : Int) * (r : Int) + (x1 : Int) < (z : Int)) = true) := by
            by_cases h1 : 4294967296 ≤ q
            · exact .inl (decide_eq_true (by omega))
            · exact .inr ⟨decide_eq_false (by omega), decide_eq_true (by omega)⟩
          clear hc
          by_cases hbr : 4294967296 ≤ t
          · have HB := brk HE.out.1 HE.out.2 hbr (HM.out.2) bd0
            rw [hYd, HMM.out] at HB
            have HB := Lib.hid HB.1
            have dbr := decide_eq_true (show (4294967296 : Int) ≤ (t : Int) by omega)
            clear hbr
            rcases hgo with dge | ⟨dge, dgt⟩
            all_goals
              go_wp2
              go_meet
              exact ⟨⟨t, rfl⟩, by rw [HB.out], rfl⟩
          · have dbr := decide_eq_false (show ¬ (4294967296 : Int) ≤ (t : Int) by omega)
            have HN := Lib.hid (⟨HE.out.1, HE.out.2, by have := HM.out.2; omega, by omega⟩ : HalfRel d1 d0 u x1 p t)
            clear hbr
            rcases hgo with dge | ⟨dge, dgt⟩
            all_goals
              go_wp2
              go_round
              case rel => exact ⟨p, t, rfl, rfl, HN.out, trivial⟩
              case measure => simp [intOf]; exact HM.out.1
        · have HB := HR.out.fin (by omega)
          rw [hYd, HMM.out] at HB
          have HB := Lib.hid HB.1
          rw [hz] at hc
          have dge := decide_eq_false (show ¬ (4294967296 : Int) ≤ (q : Int) by omega)
          have dgt := decide_eq_false (show ¬ (4294967296 : Int) * (r : Int) + (x1 : Int) < (z : Int) by omega)
          clear hc hz
          go_wp2
          go_meet
          exact ⟨⟨r, rfl⟩, by rw [HB.out], rfl⟩
    case rest =>
      obtain ⟨⟨r1, rfl⟩, rfl, rfl⟩ := hcut
      have hM := HMM.out
      have hm2' := Nat.mod_add_div M Y
      have hu2 := Nat.mod_lt M (show 0 < Y by omega)
      obtain ⟨Q1, hQ1⟩ : ∃ q, M / Y = q := ⟨_, rfl⟩
      obtain ⟨U2, hU2⟩ : ∃ q, M % Y = q := ⟨_, rfl⟩
      have hs2 := two_step (b := 4294967296) (x0 := x0) (N := NN) (by omega) (nn_eq (by decide) hM hxd eN) hQ1 hU2
      rw [hQ1] at hm2' hQb ⊢
      rw [hU2] at hm2' hu2
      have hW : IntKind.u64.wrap (IntKind.u64.wrap (IntKind.u64.wrap ((u : Int) * 4294967296) + (x1 : Int)) - IntKind.u64.wrap ((Q1 : Int) * (Y : Int))) = (U2 : Int) := by
        have e : (U2 : Int) + (Y : Int) * (Q1 : Int) = (M : Int) := by exact_mod_cast hm2'
        rw [Int.mul_comm] at e
        generalize (Q1 : Int) * (Y : Int) = z at e ⊢
        simp only [IntKind.wrap_u64]
        omega
      have HS2 := Lib.hid hs2
      clear hs2 hQ1 hU2 hM HMM
      clear hfin hor hYI hHI hLI hXI hm1 hm2 hP hL hh hy hl hy2 yh y0 h0 hu hxd hl1 hl2 hD1 hX1 hQ hQ' hQD hRR hr hqd hx10 bH bL bq br HLZ HR eN hm2'
      have hrel := HalfRel.start bd1 bd2 bd0 (by rw [hYd]; exact hu2) bx0
      have hqd : (U2 / d1) * d1 ≤ U2 := Nat.div_mul_le_self U2 d1
      obtain ⟨q, hq⟩ : ∃ q, U2 / d1 = q := ⟨_, rfl⟩
      rw [hq] at hrel hqd
      have hQ : (U2 : Int) / (d1 : Int) = (q : Int) := by rw [← hq]; rfl
      have hQ' : (U2 : Int).tdiv (d1 : Int) = (q : Int) := by rw [Int.tdiv_eq_ediv_of_nonneg (by omega)]; exact hQ
      obtain ⟨qd, hqd2⟩ : ∃ c, q * d1 = c := ⟨_, rfl⟩
      rw [hqd2] at hrel hqd
      have hQD : (q : Int) * (d1 : Int) = (qd : Int) := by rw [← hqd2, Int.natCast_mul]
      obtain ⟨r, hr⟩ : ∃ r, U2 - qd = r := ⟨_, rfl⟩
      have hRR : (U2 : Int) - (qd : Int) = (r : Int) := by omega
      rw [hr] at hrel
      have bq := hrel.most
      have br := hrel.small
      have HR := Lib.hid hrel; clear hrel
      clear hq hqd2 hr
      obtain ⟨M, hM⟩ : ∃ M, U2 * 4294967296 + x0 = M := ⟨_, rfl⟩
      have hQ2b := quo_small hu2 bx0
      rw [hM] at hQ2b HS2
      have HMM := Lib.hid hM
      clear hM
      go_upto_block 2 with fail
      go_cut [16, 18] (fun r q wx => (∃ r', r = .int .u64 r') ∧ q = .int .u64 ((M / Y : Nat) : Int) ∧ wx = wc)
      case first =>
        go_wp2
        go_loopw [18, 16] (fun q r wr => ∃ q' r' : Nat, q = .int .u64 q' ∧ r = .int .u64 r' ∧ HalfRel d1 d0 U2 x0 q' r' ∧ wr = wc) (fun q _ _ => (intOf q).toNat)
        case atStart => exact ⟨q, r, rfl, rfl, HR.out, rfl⟩
        case round =>
          clear HR
          obtain ⟨q, r, rfl, rfl, hR, rfl⟩ := hrel
          have HR := Lib.hid hR
          have bq := hR.most; have br := hR.small
          clear hR
          obtain ⟨z, hz⟩ : ∃ z, q * d0 = z := ⟨_, rfl⟩
          have hzb : z ≤ 18446744073709551615 := by rw [← hz]; exact Nat.mul_le_mul bq (show d0 ≤ 4294967295 by omega)
          have hzI : (q : Int) * (d0 : Int) = (z : Int) := by rw [← hz, Int.natCast_mul]
          by_cases hc : 4294967296 ≤ q ∨ 4294967296 * r + x0 < q * d0
          · obtain ⟨p, hqp0, he, hU, hp⟩ := HR.out.down (by rw [hYd]; exact hu2) bx0 hc
            have hqp : (q : Int) - 1 = (p : Int) := by omega
            have hq1 : 1 ≤ q := by omega
            rw [hz] at hc
            have HE := Lib.hid (And.intro he hU)
            have HM := Lib.hid (show p < q ∧ p ≤ 4294967296 from ⟨by omega, hp⟩)
            clear he hU hz hqp0
            obtain ⟨t, ht⟩ : ∃ t, r + d1 = t := ⟨_, rfl⟩
            have htI : (r : Int) + (d1 : Int) = (t : Int) := by omega
            have htb : t ≤ 8589934592 := by omega
            rw [ht] at HE
            clear ht hp
            have hgo : (decide ((4294967296 : Int) ≤ (q : Int)) = true) ∨ (decide ((4294967296 : Int) ≤ (q : Int)) = false ∧ decide ((4294967296 : Int) * (r : Int) + (x0 : Int) < (z : Int)) = true) := by
              by_cases h1 : 4294967296 ≤ q
              · exact .inl (decide_eq_true (by omega))
              · exact .inr ⟨decide_eq_false (by omega), decide_eq_true (by omega)⟩
            clear hc
            by_cases hbr : 4294967296 ≤ t
            · have HB := brk HE.out.1 HE.out.2 hbr (HM.out.2) bd0
              rw [hYd, HMM.out] at HB
              have HB := Lib.hid HB.1
              have dbr := decide_eq_true (show (4294967296 : Int) ≤ (t : Int) by omega)
              clear hbr
              rcases hgo with dge | ⟨dge, dgt⟩
              all_goals
                go_wp2
                go_meet
                exact ⟨⟨t, rfl⟩, by rw [HB.out], rfl⟩
            · have dbr := decide_eq_false (show ¬ (4294967296 : Int) ≤ (t : Int) by omega)
              have HN := Lib.hid (⟨HE.out.1, HE.out.2, by have := HM.out.2; omega, by omega⟩ : HalfRel d1 d0 U2 x0 p t)
              clear hbr
              rcases hgo with dge | ⟨dge, dgt⟩
              all_goals
                go_wp2
                go_round
                case rel => exact ⟨p, t, rfl, rfl, HN.out, trivial⟩
                case measure => simp [intOf]; exact HM.out.1
          · have HB := HR.out.fin (by omega)
            rw [hYd, HMM.out] at HB
            have HB := Lib.hid HB.1
            rw [hz] at hc
            have dge := decide_eq_false (show ¬ (4294967296 : Int) ≤ (q : Int) by omega)
            have dgt := decide_eq_false (show ¬ (4294967296 : Int) * (r : Int) + (x0 : Int) < (z : Int) by omega)
            clear hc hz
            go_wp2
            go_meet
            exact ⟨⟨r, rfl⟩, by rw [HB.out], rfl⟩
      case rest =>
        obtain ⟨⟨r2, rfl⟩, rfl, rfl⟩ := hcut
        have hM := HMM.out
        have hm2' := Nat.mod_add_div M Y
        have hu3 := Nat.mod_lt M (show 0 < Y by omega)
        obtain ⟨Q2, hQ2⟩ : ∃ q, M / Y = q := ⟨_, rfl⟩
        obtain ⟨U3, hU3⟩ : ∃ q, M % Y = q := ⟨_, rfl⟩
        rw [hQ2] at hm2' hQ2b HS2 ⊢
        rw [hU3] at hm2' hu3 HS2
        have hW2 : IntKind.u64.wrap (IntKind.u64.wrap (IntKind.u64.wrap ((U2 : Int) * 4294967296) + (x0 : Int)) - IntKind.u64.wrap ((Q2 : Int) * (Y : Int))) = (U3 : Int) := by
          have e : (U3 : Int) + (Y : Int) * (Q2 : Int) = (M : Int) := by exact_mod_cast hm2'
          rw [Int.mul_comm] at e
          generalize (Q2 : Int) * (Y : Int) = z at e ⊢
          simp only [IntKind.wrap_u64]
          omega
        have hm1 : min s 64 = s := by omega
        have hsh : (U3 : Int) / 2 ^ s = ((U3 / 2 ^ s : Nat) : Int) := by simp
        have hUs : U3 / 2 ^ s ≤ U3 := Nat.div_le_self _ _
        obtain ⟨U4, hU4⟩ : ∃ x, U3 / 2 ^ s = x := ⟨_, rfl⟩
        have HF := Lib.hid (show NN / Y = Q1 * 4294967296 + Q2 ∧ NN % Y / 2 ^ s = U4 from ⟨HS2.out.1, by rw [HS2.out.2]; exact hU4⟩)
        rw [hU4] at hsh hUs
        clear hQ2 hU3 hM HMM HS2 hm2' hR hU4
        go_wp2
        go_ret2
        refine ⟨?_, 0, rfl⟩
        rw [HF.out.1, HF.out.2]
        simp [L64]
end Go.Proofs.YtnoelffaccekjaaDoor
