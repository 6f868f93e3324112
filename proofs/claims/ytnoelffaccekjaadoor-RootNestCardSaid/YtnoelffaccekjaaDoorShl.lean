/- nat.Shl by its contract. Conditions: the list is short, the limbs are limbs. -/
import Derived.Test.YtnoelffaccekjaaDoorQuo10
namespace Go.Proofs.YtnoelffaccekjaaDoor
open Go.RowKit

/-- What nat.Shl tells. -/
def shlR (A : Nat) (n : Int) : Nat × Int := if n < 0 then (0, 1) else if A = 0 then (0, 0) else if 65536 - (bitN A : Int) < n then (0, 2) else (A * 2 ^ n.toNat, 0)

theorem or_low' {c x s : Nat} (hs : s ≤ 64) (hc : c < 2 ^ s) : bits .or .u64 ((x * 2 ^ s % BB : Nat) : Int) (c : Int) = ((x * 2 ^ s % BB + c : Nat) : Int) ∧ x * 2 ^ s % BB + c < 18446744073709551616 := by
  obtain ⟨h1, h2⟩ := or_low (x := x) hs hc
  have h3 : c < 2 ^ 64 := Nat.lt_of_lt_of_le hc (Nat.pow_le_pow_right (by omega) hs)
  have h4 : x * 2 ^ s % BB < 2 ^ 64 := by rw [← BB_pow]; exact Nat.mod_lt _ BB_pos
  rw [(bits_nat .u64 64 (by decide) (fun n h0 h1 => by rw [IntKind.wrap_u64]; omega) c _ h3 h4).2] at h1
  rw [(bits_nat .u64 64 (by decide) (fun n h0 h1 => by rw [IntKind.wrap_u64]; omega) _ c h4 h3).2, Nat.or_comm]
  exact ⟨by rw [h1, Nat.add_comm], by omega⟩

/-- The limb at a place that may be below. -/
def limbZ (l : List Nat) (i : Int) : Nat := if i < 0 then 0 else l.getD i.toNat 0
theorem limbZ_nat (l : List Nat) (k : Nat) : limbZ l (k : Int) = l.getD k 0 := by unfold limbZ; rw [if_neg (by omega)]; rfl
theorem limbZ_neg (l : List Nat) {i : Int} (h : i < 0) : limbZ l i = 0 := by unfold limbZ; rw [if_pos h]
theorem limbZ_lt {l : List Nat} (hd : Dig BB l) (i : Int) : limbZ l i < BB := by
  unfold limbZ; split
  · decide
  · exact hd.getD BB_pos _

/-- One limb of a number that is shifted up. -/
theorem shl_limb {l : List Nat} (hd : Dig BB l) {n wh pt k : Nat} {j : Int} (hn : n = 64 * wh + pt) (hp : pt < 64) (hj : (k : Int) - (wh : Int) = j) :
    val BB l * 2 ^ n / BB ^ k % BB = limbZ l j * 2 ^ pt % BB + limbZ l (j - 1) / 2 ^ (64 - pt) ∧ limbZ l (j - 1) / 2 ^ (64 - pt) < 2 ^ pt := by
  have hPR : 2 ^ pt * 2 ^ (64 - pt) = BB := by rw [← Nat.pow_add, show pt + (64 - pt) = 64 by omega, BB_pow]
  have hP : 0 < 2 ^ pt := Nat.pow_pos (by omega)
  have hlt : limbZ l (j - 1) / 2 ^ (64 - pt) < 2 ^ pt := by
    rw [Nat.div_lt_iff_lt_mul (Nat.pow_pos (by omega)), hPR]; exact limbZ_lt hd _
  refine ⟨?_, hlt⟩
  have e0 : 2 ^ n = BB ^ wh * 2 ^ pt := by rw [hn, Nat.pow_add, Nat.pow_mul, BB_pow]
  by_cases h1 : k < wh
  · rw [limbZ_neg l (by omega), limbZ_neg l (by omega), Nat.zero_mul, Nat.zero_mod, Nat.zero_div]
    obtain ⟨d, rfl⟩ : ∃ d, wh = k + 1 + d := ⟨wh - k - 1, by omega⟩
    rw [e0, show val BB l * (BB ^ (k + 1 + d) * 2 ^ pt) = BB ^ k * (BB * (val BB l * BB ^ d * 2 ^ pt)) by
      rw [Nat.pow_add, Nat.pow_succ]; simp only [Nat.mul_assoc, Nat.mul_comm, Nat.mul_left_comm], Nat.mul_div_cancel_left _ (Nat.pow_pos BB_pos), Nat.mul_mod_right]
  · obtain ⟨i, rfl⟩ : ∃ i, k = wh + i := ⟨k - wh, by omega⟩
    obtain rfl : j = (i : Int) := by omega
    have e1 : val BB l * 2 ^ n / BB ^ (wh + i) = val BB l * 2 ^ pt / BB ^ i := by
      rw [e0, Nat.pow_add, show val BB l * (BB ^ wh * 2 ^ pt) = BB ^ wh * (val BB l * 2 ^ pt) by rw [Nat.mul_left_comm], Nat.mul_div_mul_left _ _ (Nat.pow_pos BB_pos)]
    rw [e1, limbZ_nat]
    by_cases h2 : i = 0
    · subst h2
      rw [limbZ_neg l (by omega), Nat.pow_zero, Nat.div_one, Nat.zero_div, Nat.add_zero]
      have := val_drop_any BB l 0
      rw [List.drop_zero] at this
      rw [this, Nat.add_mul, Nat.mul_assoc, Nat.add_mul_mod_self_left]
    · obtain ⟨i, rfl⟩ : ∃ t, i = t + 1 := ⟨i - 1, by omega⟩
      rw [show ((i + 1 : Nat) : Int) - 1 = (i : Int) by omega, limbZ_nat]
      by_cases h3 : pt = 0
      · subst h3
        rw [Nat.pow_zero, Nat.mul_one, Nat.mul_one, val_div BB_pos hd, val_drop_any, Nat.add_mul_mod_self_left]
        have hx := hd.getD BB_pos i
        rw [Nat.div_eq_of_lt (show l.getD i 0 < 2 ^ (64 - 0) by rw [Nat.sub_zero, ← BB_pow]; exact hx)]; rfl
      · have e2 : val BB l * 2 ^ pt / BB ^ (i + 1) = val BB l / 2 ^ (64 * i + (64 - pt)) := by
          have : BB ^ (i + 1) = 2 ^ (64 * i + (64 - pt)) * 2 ^ pt := by
            rw [Nat.pow_succ, ← hPR, Nat.pow_add, Nat.pow_mul, hPR, BB_pow, Nat.mul_assoc, ← Nat.pow_add, show 64 - pt + pt = 64 by omega]
          rw [this, Nat.mul_div_mul_right _ _ hP]
        have h4 := (shr_limb hd (n := 64 * i + (64 - pt)) (k := 0) rfl (by omega)).1
        rw [Nat.pow_zero, Nat.div_one, Nat.zero_add, show 64 - (64 - pt) = pt by omega] at h4
        rw [e2, h4, Nat.add_comm]

set_option maxRecDepth 100000 in
set_option maxHeartbeats 1000000 in
theorem shl_any {w : World} {v : Value} {l : List Nat} {i : Int} (hl : RdN w v l) (hdl : Dig BB l) (h1 : l.length ≤ 100000) (hi : i ≤ 9223372036854775807) (hi' : -9223372036854775808 ≤ i) :
    Calls Tryd.prog 42 #[v, .int .i64 i] w (OneE w (shlR (val BB l) i)) := by
  obtain ⟨i0, hi0, hz0, hz1, hz2⟩ := info_parts infoU
  have HA := bare_num hl hdl h1
  have la := digs_bound hdl h1 rfl
  generalize val BB l = A at *
  have dA := dig_digs BB_two A
  have eA := val_digs BB_two A
  have gA := digs_bits (n := A) la
  have HbA := Lib.hid (fun (w : World) v (h1 : RdN w v (digs BB A)) => bits_num h1 dA la)
  rw [eA] at HbA
  unfold OneE shlR
  by_cases hneg : i < 0
  · rw [if_pos hneg]
    go_enter Tryd.func42, Tryd.ntmps42
    go_wp2_with (go_at_call 23; (with_reducible refine HA.mono ?_); rintro e w1 ⟨v1, rfl, hr, hb1⟩)
    go_ret2
    exact ⟨_, rfl, RdN.nil0 _, hb1⟩
  · rw [if_neg hneg]
    by_cases h0 : A = 0
    · rw [if_pos h0]
      rw [h0, digs_zero] at HA
      have hnd : decide (i < 0) = false := decide_eq_false hneg
      go_enter Tryd.func42, Tryd.ntmps42
      go_wp2_with (go_at_call 23; (with_reducible refine HA.mono ?_); rintro e w1 ⟨v1, rfl, hr, hb1⟩; obtain ⟨a1, k1, rfl, -⟩ := hr.view)
      go_ret2
      exact ⟨_, rfl, RdN.nil0 _, hb1⟩
    · rw [if_neg h0]
      have hsl : 0 < (digs BB A).length := List.length_pos_iff.2 (fun e => h0 ((digs_nil_iff BB_two _).1 e))
      have hsn : ((digs BB A).length : Int) ≠ 0 := by omega
      obtain ⟨b, hb⟩ : ∃ b, bitN A = b := ⟨_, rfl⟩
      rw [hb] at HbA gA ⊢
      by_cases hbig : 65536 - (b : Int) < i
      · rw [if_pos hbig]
        generalize digs BB A = s at *
        go_enter Tryd.func42, Tryd.ntmps42
        go_wp2_with (first
          | (go_at_call 23; (with_reducible refine HA.mono ?_); rintro e w1 ⟨v1, rfl, hr, hb1⟩; obtain ⟨a1, k1, rfl, -⟩ := hr.view)
          | (go_at_call 21; (with_reducible refine (HbA.out _ _ hr).mono ?_); rintro e w2 ⟨rfl, hb2⟩))
        go_ret2
        exact ⟨_, rfl, RdN.nil0 _, hb1.trans (hb2.mono hb1.size)⟩
      · rw [if_neg hbig]
        obtain ⟨n, rfl⟩ := Int.eq_ofNat_of_zero_le (show 0 ≤ i by omega)
        rw [Int.toNat_natCast]
        obtain ⟨wh, hwh2⟩ : ∃ x, n / 64 = x := ⟨_, rfl⟩
        obtain ⟨pt, hpt⟩ : ∃ x, n % 64 = x := ⟨_, rfl⟩
        have hnw : n = 64 * wh + pt := by omega
        have hpt64 : pt < 64 := by omega
        have hwI2 : (n : Int).tdiv 64 = (wh : Int) := by rw [Int.tdiv_eq_ediv_of_nonneg (by omega)]; omega
        have hpI2 : (n : Int).tmod 64 = (pt : Int) := by rw [Int.tmod_eq_emod_of_nonneg (by omega)]; omega
        have hAm : A * 2 ^ n < BB ^ ((digs BB A).length + wh + 1) := by
          have h2 := (digs_length_le BB_two A (digs BB A).length).1 (Nat.le_refl _)
          have h3 : 2 ^ n ≤ BB ^ (wh + 1) := by
            rw [BB_pow, ← Nat.pow_mul]; exact Nat.pow_le_pow_right (by omega) (by omega)
          rw [Nat.add_assoc, Nat.pow_add]
          exact Nat.lt_of_lt_of_le (Nat.mul_lt_mul_of_pos_right h2 (Nat.pow_pos (by omega))) (Nat.mul_le_mul_left _ h3)
        have hs1 : (digs BB A).length ≤ 1024 := digs_short (k := 1024) (by omega)
        have hlimb := fun (k : Nat) (j : Int) (hj : (k : Int) - (wh : Int) = j) => shl_limb (l := digs BB A) dA (k := k) hnw hpt64 hj
        rw [eA] at hlimb
        have hlimb := Lib.hid hlimb
        generalize digs BB A = s at *
        obtain ⟨m, hm, hm2⟩ : ∃ m : Nat, ((s.length : Int) + (wh : Int) + 1) = (m : Int) ∧ s.length + wh + 1 = m := ⟨s.length + wh + 1, by omega, rfl⟩
        rw [hm2] at hAm
        have HAM := Lib.hid hAm
        have HNW := Lib.hid hnw
        have hn16 : n ≤ 65536 := by omega
        have hwh1 : wh ≤ 1024 := by omega
        have hm3 : m ≤ 2100 := by omega
        clear hAm hwh2 hpt hnw
        go_enter Tryd.func42, Tryd.ntmps42
        go_wp2_with (first
          | (go_at_call 23; (with_reducible refine HA.mono ?_); rintro e w1 ⟨v1, rfl, hr, hb1⟩; obtain ⟨a1, k1, rfl, -⟩ := hr.view)
          | (go_at_call 21; (with_reducible refine (HbA.out _ _ hr).mono ?_); rintro e w2 ⟨rfl, hb2⟩)
          | (at_make; go_loud (refine wpList_make_full _ rfl (.tmp 34) (.tmp 34) 22 rfl w2.heap.size 33 i0 (.int .u64 0) 1 Tryd.underlying22 hi0 hz0 hz1 .i64 .i64 m m m ?_ ?_ rfl rfl ?_ ?_ ?_ ?_; (any_goals (first | rfl | (rw [hz2]; omega) | (unfold maxLen; omega) | (with_reducible exact Nat.le_refl _))); intro w0 hown0 hgrow0)))
        rw [made_zero] at hown0
        have B2 := hb1.trans (hb2.mono hb1.size)
        have HS := Lib.hid (show ShrRel w2 (A * 2 ^ n) m 0 (List.replicate m 0) w0 from ⟨Nat.zero_le _, by simp, Dig.replicate BB_pos _, by rw [List.take_zero, val_nil, Nat.pow_zero, Nat.mod_one], hown0, (Below.refl _ _).grown hgrow0 (Nat.le_refl _) (by simp)⟩)
        have HR2 := Lib.hid (hr.below hb2)
        clear hown0 hgrow0
        go_loopw [38] (fun i wr => ∃ (k : Nat) (X : List Nat), i = .int .i64 k ∧ ShrRel w2 (A * 2 ^ n) m k X wr) (fun i _ => m - (intOf i).toNat)
        case atStart => exact ⟨0, _, rfl, HS.out⟩
        case round =>
          clear HS
          obtain ⟨k, X, rfl, hR⟩ := hrel
          have HR := Lib.hid hR
          have hk := hR.le; have hXl := hR.len; have hB := hR.below
          have B3 := B2.trans (hB.mono B2.size)
          by_cases hkm : k < m
          · obtain ⟨j, hj⟩ : ∃ t : Int, (k : Int) - (wh : Int) = t := ⟨_, rfl⟩
            have hjl : j ≤ 200000 := by omega
            have hjg : -2000 ≤ j := by omega
            have RD := (HR2.out.below hB).below (below_drewN (Below.refl _ _) 1)
            have HLa := limb_any RD (i := j) (by omega) (by omega)
            have HLb := limb_any RD (i := j - 1) (by omega) (by omega)
            change Calls _ _ _ _ (fun e w' => e = .returned (L64 (limbZ s j)) ∧ _) at HLa
            change Calls _ _ _ _ (fun e w' => e = .returned (L64 (limbZ s (j - 1))) ∧ _) at HLb
            have hlim := hlimb.out k j hj
            have hca := hR.own.cellAt k (by omega)
            rw [List.getElem?_map, List.getElem?_eq_getElem (by omega), Option.map_some, ← getD_lt] at hca
            have hfr := hR.own.frozenAt k
            obtain ⟨hor, hob⟩ := or_low' (x := limbZ s j) (show pt ≤ 64 by omega) hlim.2
            have hYI : IntKind.u64.wrap ((limbZ s j : Int) * 2 ^ pt) = ((limbZ s j * 2 ^ pt % BB : Nat) : Int) := by rw [IntKind.wrap_u64, show BB = 18446744073709551616 from rfl]; simp
            have hXI : (limbZ s (j - 1) : Int) / 2 ^ (64 - pt) = ((limbZ s (j - 1) / 2 ^ (64 - pt) : Nat) : Int) := by simp
            have hx := limbZ_lt dA (j - 1)
            have hxb : limbZ s (j - 1) / 2 ^ (64 - pt) ≤ limbZ s (j - 1) := Nat.div_le_self _ _
            have HST := Lib.hid ((hR.drewN 1).step hkm hlim.1.symm)
            clear hR hlim
            generalize limbZ s (j - 1) / 2 ^ (64 - pt) = xl at *
            generalize limbZ s j * 2 ^ pt % BB = yl at *
            generalize limbZ s (j - 1) = x at *
            generalize limbZ s j = y at *
            generalize X.getD k 0 = o at *
            obtain ⟨t, ht⟩ : ∃ t, yl + xl = t := ⟨_, rfl⟩
            rw [ht] at hor hob HST
            clear ht
            have hx64 : x < 18446744073709551616 := hx
            have hm1 : min pt 64 = pt := by omega
            have hm2 : min ((64 : Int) - (pt : Int)).toNat 64 = 64 - pt := by omega
            have hW1 : IntKind.u64.wrap (t : Int) = (t : Int) := by rw [IntKind.wrap_u64]; omega
            have hW2 : IntKind.u64.wrap (xl : Int) = (xl : Int) := by rw [IntKind.wrap_u64]; omega
            have hW3 : IntKind.i64.wrap (j - 1) = j - 1 := by rw [IntKind.wrap_i64]; omega
            have hW4 : IntKind.i64.wrap (64 - (pt : Int)) = 64 - (pt : Int) := by rw [IntKind.wrap_i64]; omega
            have HLa := Lib.hid HLa; have HLb := Lib.hid HLb
            go_wp2
            go_still_tail 15, (by kernel_rfl)
            still_call HLa.out
            repeat still_step
            still_call HLb.out
            repeat still_step
            refine wpStill_nil ?_
            change wpList _ _ _ _ _ wr.drew
            have hca2 : wr.drew.cell? ⟨w2.heap.size, k, none⟩ = some (L64 o) := hca
            have hfr2 : wr.drew.frozen? ⟨w2.heap.size, k, none⟩ = false := hfr
            change Hid (ShrRel w2 _ m (k + 1) _ (wr.drew.setCell _ _)) at HST
            clear hca hfr HLa HLb RD
            generalize wr.drew = w3 at *
            go_wp2
            go_round
            case rel => exact ⟨k + 1, _, by go_num, HST.out⟩
            case measure => simp [intOf]; omega
          · have hkl : k = m := by omega
            subst hkl
            have E := hR.fin HAM.out
            have RX : RdN _ _ X := Rd.of_own hR.own (fun _ _ => trivial)
            clear hR
            go_wp2_with (go_at_call 23; (with_reducible refine (bare_any RX ?_).mono ?_); (focus omega); rintro e w4 ⟨v4, rfl, hr4, hb4⟩)
            go_ret2
            rw [E] at hr4
            exact ⟨_, rfl, hr4, B3.trans (hb4.mono B3.size)⟩
end Go.Proofs.YtnoelffaccekjaaDoor
