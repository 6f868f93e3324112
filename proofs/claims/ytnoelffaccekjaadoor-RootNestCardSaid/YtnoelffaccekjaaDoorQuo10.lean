/- nat.Shr by its contract: the walk. Conditions: the list is short, the limbs are limbs, math/bits' table stands in its variable. -/
import Derived.Test.YtnoelffaccekjaaDoorQuo9
namespace Go.Proofs.YtnoelffaccekjaaDoor
open Go.RowKit

/-- What nat.Shr leaves. -/
def ShrEnd (w : World) (A n : Nat) (e : Ending) (w' : World) : Prop :=
  ∃ v, e = .returned (.tuple #[v, .bool (decide (A % 2 ^ n ≠ 0))]) ∧ RdN w' v (digs BB (A / 2 ^ n)) ∧ Below w.heap.size w w'

set_option maxRecDepth 100000 in
set_option maxHeartbeats 1000000 in
theorem shr_any {w : World} {v : Value} {l : List Nat} {i : Int} (hl : RdN w v l) (hdl : Dig BB l) (h1 : l.length ≤ 100000) (hi : i ≤ 9223372036854775807) (hi' : -9223372036854775808 ≤ i) (hT : Tab w) :
    Calls Tryd.prog 62 #[v, .int .i64 i] w (ShrEnd w (val BB l) i.toNat) := by
  obtain ⟨i0, hi0, hz0, hz1, hz2⟩ := info_parts infoU
  have HA := bare_num hl hdl h1
  have la := digs_bound hdl h1 rfl
  generalize val BB l = A at *
  have dA := dig_digs BB_two A
  have eA := val_digs BB_two A
  have gA := digs_bits (n := A) la
  have HbA := Lib.hid (fun (w : World) v (h1 : RdN w v (digs BB A)) => bits_num h1 dA la)
  have HLow := Lib.hid (fun (w : World) v (h1 : RdN w v (digs BB A)) (hT : Tab w) => low_any h1 dA la hT)
  rw [eA] at HbA HLow
  obtain ⟨n, hn⟩ : ∃ n, i.toNat = n := ⟨_, rfl⟩
  rw [hn]
  have hmax : ((if i < 0 then 0 else i : Int)) = (n : Int) := by split <;> omega
  have hmax2 : max i 0 = (n : Int) := by omega
  have hT := Lib.hid hT
  obtain ⟨b, hb⟩ : ∃ b, bitN A = b := ⟨_, rfl⟩
  by_cases hbig : b ≤ n
  · have hlt : A < 2 ^ n := bitN_le.1 (by omega)
    have hdig : A / 2 ^ n = 0 := Nat.div_eq_of_lt hlt
    have hmod : A % 2 ^ n = A := Nat.mod_eq_of_lt hlt
    have hlen : decide (A % 2 ^ n ≠ 0) = decide (0 < (digs BB A).length) := by
      rw [hmod]
      by_cases h0 : A = 0
      · rw [h0, digs_zero]; rfl
      · rw [decide_eq_true h0, decide_eq_true (List.length_pos_iff.2 (fun h => h0 ((digs_nil_iff BB_two A).1 h)))]
    unfold ShrEnd
    rw [hdig, hlen]
    rw [hb] at HbA
    generalize digs BB A = s at *
    clear hdig hmod hlen hlt
    go_enter Tryd.func62, Tryd.ntmps62
    go_wp2_with (first
      | (go_at_call 23; (with_reducible refine HA.mono ?_); rintro e w1 ⟨v1, rfl, hr, hb1⟩; obtain ⟨a1, k1, rfl, -⟩ := hr.view)
      | (go_at_call 21; (with_reducible refine (HbA.out _ _ hr).mono ?_); rintro e w2 ⟨rfl, hb2⟩))
    all_goals
      go_ret2
      exact ⟨_, by simp, RdN.nil0 _, hb1.trans (hb2.mono hb1.size)⟩
  · have hA0 : A ≠ 0 := fun h => by rw [h, bitN_zero] at hb; omega
    have hwh : n / 64 < (digs BB A).length := by
      have h2 := digs_bits (n := A) (Nat.le_refl _)
      omega
    obtain ⟨wh, hwh2⟩ : ∃ x, n / 64 = x := ⟨_, rfl⟩
    obtain ⟨pt, hpt⟩ : ∃ x, n % 64 = x := ⟨_, rfl⟩
    have hnw : n = 64 * wh + pt := by omega
    have hpt64 : pt < 64 := by omega
    have hwI : (n : Int) / 64 = (wh : Int) := by omega
    have hpI : (n : Int) % 64 = (pt : Int) := by omega
    have hwI2 : (n : Int).tdiv 64 = (wh : Int) := by rw [Int.tdiv_eq_ediv_of_nonneg (by omega)]; exact hwI
    have hpI2 : (n : Int).tmod 64 = (pt : Int) := by rw [Int.tmod_eq_emod_of_nonneg (by omega)]; exact hpI
    rw [hwh2] at hwh
    have hAm : A / 2 ^ n < BB ^ ((digs BB A).length - wh) := by
      have h2 := (digs_length_le BB_two A (digs BB A).length).1 (Nat.le_refl _)
      rw [Nat.div_lt_iff_lt_mul (Nat.pow_pos (by omega))]
      refine Nat.lt_of_lt_of_le h2 ?_
      have e : BB ^ (digs BB A).length = BB ^ ((digs BB A).length - wh) * BB ^ wh := by rw [← Nat.pow_add]; congr 1; omega
      rw [e]
      refine Nat.mul_le_mul_left _ ?_
      rw [BB_pow, ← Nat.pow_mul]
      exact Nat.pow_le_pow_right (by omega) (by omega)
    have hlimb := fun k => shr_limb (l := digs BB A) dA (k := k) hnw hpt64
    rw [eA] at hlimb
    have hlimb := Lib.hid hlimb
    rw [hb] at HbA
    generalize digs BB A = s at *
    obtain ⟨m, hm, hm2⟩ : ∃ m : Nat, ((s.length : Int) - (wh : Int)) = (m : Int) ∧ s.length - wh = m := ⟨s.length - wh, by omega, rfl⟩
    rw [hm2] at hAm
    have HAM := Lib.hid hAm
    have HNW := Lib.hid hnw
    have hn30 : n ≤ 6400000 := by omega
    clear hAm hwh2 hpt hb hnw
    go_enter Tryd.func62, Tryd.ntmps62
    go_wp2_with (first
      | (go_at_call 23; (with_reducible refine HA.mono ?_); rintro e w1 ⟨v1, rfl, hr, hb1⟩; obtain ⟨a1, k1, rfl, -⟩ := hr.view)
      | (go_at_call 21; (with_reducible refine (HbA.out _ _ hr).mono ?_); rintro e w2 ⟨rfl, hb2⟩)
      | (at_make; go_loud (refine wpList_make_full _ rfl (.tmp 29) (.tmp 29) 22 rfl w2.heap.size 33 i0 (.int .u64 0) 1 Tryd.underlying22 hi0 hz0 hz1 .i64 .i64 m m m ?_ ?_ rfl rfl ?_ ?_ ?_ ?_; (any_goals (first | rfl | (rw [hz2]; omega) | (unfold maxLen; omega) | (with_reducible exact Nat.le_refl _))); intro w0 hown0 hgrow0)))
    rw [made_zero] at hown0
    have B2 := hb1.trans (hb2.mono hb1.size)
    have HS := Lib.hid (show ShrRel w2 (A / 2 ^ n) m 0 (List.replicate m 0) w0 from ⟨Nat.zero_le _, by simp, Dig.replicate BB_pos _, by rw [List.take_zero, val_nil, Nat.pow_zero, Nat.mod_one], hown0, (Below.refl _ _).grown hgrow0 (Nat.le_refl _) (by simp)⟩)
    have HR2 := Lib.hid (hr.below hb2)
    clear hown0 hgrow0
    go_loopw [33] (fun i wr => ∃ (k : Nat) (X : List Nat), i = .int .i64 k ∧ ShrRel w2 (A / 2 ^ n) m k X wr) (fun i _ => m - (intOf i).toNat)
    case atStart => exact ⟨0, _, rfl, HS.out⟩
    case round =>
      clear HS
      obtain ⟨k, X, rfl, hR⟩ := hrel
      have HR := Lib.hid hR
      have hk := hR.le; have hXl := hR.len; have hB := hR.below
      have B3 := B2.trans (hB.mono B2.size)
      by_cases hkm : k < m
      · obtain ⟨kk, hkk⟩ : ∃ t, k + wh = t := ⟨_, rfl⟩
        have hkI : (k : Int) + (wh : Int) = (kk : Int) := by omega
        have hkb : kk + 1 ≤ 100000 := by omega
        have RD := (HR2.out.below hB).below (below_drewN (Below.refl _ _) 1)
        have HLa := limb_nat RD (k := kk) (by omega)
        have HLb := limb_nat RD (k := kk + 1) (by omega)
        rw [Int.natCast_add] at HLb
        have hlim := hlimb.out k
        rw [hkk] at hlim
        have hca := hR.own.cellAt k (by omega)
        rw [List.getElem?_map, List.getElem?_eq_getElem (by omega), Option.map_some, ← getD_lt] at hca
        have hfr := hR.own.frozenAt k
        obtain ⟨hor, hob⟩ := or_low (x := s.getD (kk + 1) 0) (show 64 - pt ≤ 64 by omega) hlim.2
        have hYI : IntKind.u64.wrap ((s.getD (kk + 1) 0 : Int) * 2 ^ (64 - pt)) = ((s.getD (kk + 1) 0 * 2 ^ (64 - pt) % BB : Nat) : Int) := by rw [IntKind.wrap_u64, show BB = 18446744073709551616 from rfl]; simp
        have hXI : (s.getD kk 0 : Int) / 2 ^ pt = ((s.getD kk 0 / 2 ^ pt : Nat) : Int) := by simp
        have hx := dA.getD BB_pos kk
        have hxb : s.getD kk 0 / 2 ^ pt ≤ s.getD kk 0 := Nat.div_le_self _ _
        have HST := Lib.hid ((hR.drewN 1).step hkm hlim.1.symm)
        clear hR hlim
        generalize s.getD kk 0 / 2 ^ pt = xl at *
        generalize s.getD (kk + 1) 0 * 2 ^ (64 - pt) % BB = yl at *
        generalize s.getD kk 0 = x at *
        generalize s.getD (kk + 1) 0 = y at *
        generalize X.getD k 0 = o at *
        obtain ⟨t, ht⟩ : ∃ t, xl + yl = t := ⟨_, rfl⟩
        rw [ht] at hor hob HST
        clear ht hkk
        have hx64 : x < 18446744073709551616 := hx
        have hm1 : min pt 64 = pt := by omega
        have hm2 : min ((64 : Int) - (pt : Int)).toNat 64 = 64 - pt := by omega
        have hW1 : IntKind.u64.wrap (t : Int) = (t : Int) := by rw [IntKind.wrap_u64]; omega
        have hW2 : IntKind.u64.wrap (xl : Int) = (xl : Int) := by rw [IntKind.wrap_u64]; omega
        have hW3 : IntKind.i64.wrap ((kk : Int) + 1) = (kk : Int) + 1 := by rw [IntKind.wrap_i64]; omega
        have hW4 : IntKind.i64.wrap (64 - (pt : Int)) = 64 - (pt : Int) := by rw [IntKind.wrap_i64]; omega
        have HLa := Lib.hid HLa; have HLb := Lib.hid HLb
        go_wp2
        go_still_tail 15, (by kernel_rfl)
        still_call HLa.out
        repeat still_step
        still_call HLb.out
        repeat still_step
        refine wpStill_nil ?_
        change wpList _ _ _ _ _ wr.drew
        have hca2 : wr.drew.cell? ⟨w2.heap.size, k, none⟩ = some (L64 o) := hca
        have hfr2 : wr.drew.frozen? ⟨w2.heap.size, k, none⟩ = false := hfr
        change Hid (ShrRel w2 _ m (k + 1) _ (wr.drew.setCell _ _)) at HST
        clear hca hfr HLa HLb RD
        generalize wr.drew = w3 at *
        go_wp2
        go_round
        case rel => exact ⟨k + 1, _, by go_num, HST.out⟩
        case measure => simp [intOf]; omega
      · have hkl : k = m := by omega
        subst hkl
        have E := hR.fin HAM.out
        have RX : RdN _ _ X := Rd.of_own hR.own (fun _ _ => trivial)
        have RS := Lib.hid (HR2.out.below hB)
        have HT3 := Lib.hid (hT.out.below B3)
        clear hR
        go_wp2_with (first
          | (go_at_call 23; (with_reducible refine (bare_any RX ?_).mono ?_); (focus omega); rintro e w4 ⟨v4, rfl, hr4, hb4⟩)
          | (go_at_call 64; (with_reducible refine (HLow.out _ _ (RS.out.below hb4) (HT3.out.below hb4)).mono ?_); rintro e w5 ⟨kl, rfl, hlow, rfl, hkl⟩; have HLW := Lib.hid (low_rest (n := n) hA0 hlow)))
        go_ret2
        rw [E] at hr4
        exact ⟨_, by rw [← HLW.out]; simp, hr4, B3.trans (hb4.mono B3.size)⟩
end Go.Proofs.YtnoelffaccekjaaDoor
