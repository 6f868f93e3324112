/- ProdSquares returns true and leaves what was there: the walk. Conditions: none beyond what slices of uint64 and uint8s are. -/
import Derived.Test.YtpdiplfenmkdhaaProdRulesWalk
namespace Go.Proofs.Ytpdiplfenmkdhaa.PSquares
open Go.RowKit Go.Proofs.Ytpdiplfenmkdhaa Go.Proofs.Ytpdiplfenmkdhaa.PRules

theorem pow_num {w : World} {v : Value} {P j : Nat} (h : RdN w v (digs BB P)) (h1 : bitN P ≤ 65536) (h2 : bitN (P ^ j) ≤ 65536) (hj : j ≤ 100000) :
    Calls Try.prog 10 #[v, .int .i64 j] w (OneE w (P ^ j, 0)) := by
  have := pow_any (k := (j : Int)) h (dig_digs BB_two P) (limbs (k := 1024) (by omega) (by decide)) (by omega) (by omega)
  rw [val_digs BB_two, PPows.powR_ok (by omega) (by rw [Int.toNat_natCast]; exact h2), Int.toNat_natCast] at this
  exact this

set_option maxRecDepth 100000 in
set_option maxHeartbeats 2000000 in
theorem walk (a0 : Option Addr) (len0 cap0 : Nat) (z0 : List Int) (a1 : Option Addr) (len1 cap1 : Nat) (z1 : List Int) (a2 a3 : Int) (w : World) (w0 : IsRow .u64 w a0 len0 cap0 z0) (w1 : IsRow .u64 w a1 len1 cap1 z1) (w2 : (Lit.int .u8 a2).wf = true) (w3 : (Lit.int .u8 a3).wf = true) :
    Calls Try.prog 5 #[.slice a0 len0 cap0, .slice a1 len1 cap1, .int .u8 a2, .int .u8 a3] w fun e w' => e = .returned (.bool true) ∧ Below w.heap.size w w' := by
  obtain ⟨l, hl, dl, Rl, hl64⟩ := w0.nums
  obtain ⟨m, hm, dm, Rm, hm64⟩ := w1.nums
  have h3 : 0 ≤ a2 ∧ a2 ≤ 255 := by simpa [Lit.wf, IntKind.min, IntKind.max, IntKind.bits, IntKind.signed] using w2
  have h4 : 0 ≤ a3 ∧ a3 ≤ 255 := by simpa [Lit.wf, IntKind.min, IntKind.max, IntKind.bits, IntKind.signed] using w3
  obtain ⟨i, rfl⟩ := Int.eq_ofNat_of_zero_le h3.1
  obtain ⟨k, rfl⟩ := Int.eq_ofNat_of_zero_le h4.1
  clear w0 w1 w2 w3
  by_cases hbig : 4 < len0 ∨ 4 < len1
  · clear Rl Rm dl dm hl hm
    by_cases hb0 : 4 < len0
    · go_enter Try.func5, Try.ntmps5
      go_wp2_with (go_at_call 7; (with_reducible refine (alive_any _).mono ?_); rintro e wa ⟨rfl, hba⟩)
      go_ret
      exact ⟨rfl, hba⟩
    · have hb1 : 4 < len1 := by omega
      go_enter Try.func5, Try.ntmps5
      go_wp2_with (go_at_call 7; (with_reducible refine (alive_any _).mono ?_); rintro e wa ⟨rfl, hba⟩)
      go_ret
      exact ⟨rfl, hba⟩
  · have hl0 : len0 ≤ 4 := by omega
    have hl1 : len1 ≤ 4 := by omega
    have dec0 : decide (4 < (len0 : Int)) = false := decide_eq_false (by omega)
    have dec1 : decide (4 < (len1 : Int)) = false := decide_eq_false (by omega)
    have RL := Lib.hid Rl; have RM := Lib.hid Rm
    clear Rl Rm hbig
    have bA := PMuls.val_bits dl (show l.length ≤ 4 by omega)
    have bB := PMuls.val_bits dm (show m.length ≤ 4 by omega)
    obtain ⟨p, hp, hp8⟩ : ∃ p : Nat, (i : Int) % 6 = p ∧ p < 6 := ⟨i % 6, by omega, by omega⟩
    obtain ⟨q, hq, hq8⟩ : ∃ q : Nat, (k : Int) % 6 = q ∧ q < 6 := ⟨k % 6, by omega, by omega⟩
    have hr25 : p * q ≤ 25 := Nat.mul_le_mul (show p ≤ 5 by omega) (show q ≤ 5 by omega)
    have bw : ∀ (X c j : Nat), bitN X ≤ c → bitN (X ^ j) ≤ c * j + 1 := fun X c j hX => by
      have := bitN_pow_le X j
      have h2 := Nat.mul_le_mul_right j hX
      omega
    have bwA := bw (val BB l) 256
    have bwB := bw (val BB m) 256
    have HA : ∀ (w : World) v (h : RdN w v l) (j : Nat) (hj : j ≤ 25), Calls Try.prog 10 #[v, .int .i64 j] w (OneE w (val BB l ^ j, 0)) := fun w v h j hj => by
      have := pow_any (k := (j : Int)) h dl (by omega) (by omega) (by omega)
      rw [PPows.powR_ok (by omega) (by rw [Int.toNat_natCast]; have := bwA j (by omega); omega), Int.toNat_natCast] at this
      exact this
    have HB : ∀ (w : World) v (h : RdN w v m) (j : Nat) (hj : j ≤ 25), Calls Try.prog 10 #[v, .int .i64 j] w (OneE w (val BB m ^ j, 0)) := fun w v h j hj => by
      have := pow_any (k := (j : Int)) h dm (by omega) (by omega) (by omega)
      rw [PPows.powR_ok (by omega) (by rw [Int.toNat_natCast]; have := bwB j (by omega); omega), Int.toNat_natCast] at this
      exact this
    have HM := Lib.hid (fun w v u (h : RdN w v l) (k : RdN w u m) => mul_any h k dl dm (by omega) (by omega))
    have HbA := Lib.hid (fun w v (h : RdN w v l) => bits_num h dl (by omega))
    have HbB := Lib.hid (fun w v (h : RdN w v m) => bits_num h dm (by omega))
    have HA := Lib.hid HA; have HB := Lib.hid HB
    generalize val BB l = A at *
    generalize val BB m = B at *
    rw [PMuls.mulR_small (by omega)] at HM
    have b1 := bwA p (by omega)
    have b2 := bwB p (by omega)
    have b3 := bitN_mul_le A B
    have b4 := bw (A * B) 512 p (by omega)
    have b5 := bwA (p * q) (by omega)
    have HQ := Lib.hid (fun w v (h : RdN w v (digs BB (A ^ p))) => pow_num (j := q) h (by omega) (by rw [← Nat.pow_mul]; omega) (by omega))
    rw [← Nat.pow_mul] at HQ
    have HAr := Lib.hid (fun w v (h : RdN w v l) => HA.out w v h (p * q) hr25)
    have HS := Lib.hid (fun w v (h : RdN w v (digs BB (A * B))) => pow_num (j := p) h (by omega) (by omega) (by omega))
    have HV : ∀ (w : World) v u (h : RdN w v (digs BB (A ^ p))) (k : RdN w u (digs BB (B ^ p))), Calls Try.prog 15 #[v, u] w (OneE w ((A * B) ^ p, 0)) := fun w v u h k => by
      have := mul_any h k (dig_digs BB_two _) (dig_digs BB_two _) (limbs (k := 100) (by omega) (by decide)) (limbs (k := 100) (by omega) (by decide))
      rw [val_digs BB_two, val_digs BB_two, PMuls.mulR_small (by omega), ← Nat.mul_pow] at this
      exact this
    have HV := Lib.hid HV
    have lR : (digs BB (A ^ (p * q))).length ≤ 100000 := limbs (k := 200) (by omega) (by decide)
    have lT : (digs BB ((A * B) ^ p)).length ≤ 100000 := limbs (k := 200) (by omega) (by decide)
    have HbS := Lib.hid (fun w v (h : RdN w v (digs BB (A * B))) => bits_num h (dig_digs BB_two _) (limbs (k := 100) (by omega) (by decide)))
    rw [val_digs BB_two] at HbS
    obtain ⟨r, hr⟩ : ∃ r, p * q = r := ⟨_, rfl⟩
    have hr' : (p : Int) * (q : Int) = (r : Int) := by rw [← hr, Int.natCast_mul]
    rw [hr] at HQ HAr lR hr25
    have BW := Lib.hid (And.intro bwA bwB)
    clear bwA bwB bw hr b1 b2 b4 b5
    go_enter Try.func5, Try.ntmps5
    go_wp2_with (first
      | (go_at_call 7; (with_reducible refine (alive_any _).mono ?_); rintro e wa ⟨rfl, hba⟩)
      | (go_at_call 10; (with_reducible refine (HA.out _ _ (RL.out.below hba) p (by omega)).mono ?_); rintro e w1 ⟨vp, rfl, rp, hb1⟩; have B1 := hba.trans (hb1.mono hba.size))
      | (go_at_call 10; (with_reducible refine (HQ.out _ _ rp).mono ?_); rintro e w2 ⟨vq, rfl, rq, hb2⟩; have B2 := B1.trans (hb2.mono B1.size); have rp2 := rp.below hb2)
      | (go_at_call 10; (with_reducible refine (HAr.out _ _ (RL.out.below B2)).mono ?_); rintro e w3 ⟨vr, rfl, rr, hb3⟩; have B3 := B2.trans (hb3.mono B2.size); have rp3 := rp2.below hb3; have rq3 := rq.below hb3)
      | (go_at_call 15; (with_reducible refine (HM.out _ _ _ (RL.out.below B3) (RM.out.below B3)).mono ?_); rintro e w4 ⟨vs, rfl, rs, hb4⟩; have B4 := B3.trans (hb4.mono B3.size); have rp4 := rp3.below hb4; have rq4 := rq3.below hb4; have rr4 := rr.below hb4)
      | (go_at_call 10; (with_reducible refine (HS.out _ _ rs).mono ?_); rintro e w5 ⟨vt, rfl, rt, hb5⟩; have B5 := B4.trans (hb5.mono B4.size); have rp5 := rp4.below hb5; have rq5 := rq4.below hb5; have rr5 := rr4.below hb5; have rs5 := rs.below hb5; clear rp rp2 rp3 rp4 rq rq3 rq4 rr rr4 rs)
      | (go_at_call 10; (with_reducible refine (HB.out _ _ (RM.out.below B5) p (by omega)).mono ?_); rintro e w6 ⟨vu, rfl, ru, hb6⟩; have B6 := B5.trans (hb6.mono B5.size); have rp6 := rp5.below hb6; have rq6 := rq5.below hb6; have rr6 := rr5.below hb6; have rs6 := rs5.below hb6; have rt6 := rt.below hb6)
      | (go_at_call 15; (with_reducible refine (HV.out _ _ _ rp6 ru).mono ?_); rintro e w7 ⟨vv, rfl, rv, hb7⟩; have B7 := B6.trans (hb7.mono B6.size); have rq7 := rq6.below hb7; have rr7 := rr6.below hb7; have rs7 := rs6.below hb7; have rt7 := rt6.below hb7; clear rp5 rp6 rq5 rq6 rr5 rr6 rs5 rs6 rt rt6 ru)
      | (go_at_call 21; (with_reducible refine (PRules.cmp_same rq7 rr7 lR).mono ?_); rintro e w8 ⟨rfl, hb8⟩; have B8 := B7.trans (hb8.mono B7.size); have rs8 := rs7.below hb8; have rt8 := rt7.below hb8; have rv8 := rv.below hb8)
      | (go_at_call 21; (with_reducible refine (PRules.cmp_same rt8 rv8 lT).mono ?_); rintro e w9 ⟨rfl, hb9⟩; have B9 := B8.trans (hb9.mono B8.size); have rs9 := rs8.below hb9)
      | fail)
    clear HA HB HAr HQ HS HV HM BW lR lT
    by_cases hA : A = 0
    · subst hA
      rw [bitN_zero] at HbA
      rw [Nat.zero_mul, bitN_zero] at HbS
      rw [Nat.zero_mul] at rs9
      go_wp2_with (first
        | (go_at_call 13; (with_reducible refine (HbA.out _ _ (RL.out.below B9)).mono ?_); rintro e w10 ⟨rfl, hb10⟩; have B10 := B9.trans (hb10.mono B9.size); have rs10 := rs9.below hb10)
        | (go_at_call 13; (with_reducible refine (HbB.out _ _ (RM.out.below B10)).mono ?_); rintro e w11 ⟨rfl, hb11⟩; have B11 := B10.trans (hb11.mono B10.size); have rs11 := rs10.below hb11)
        | (go_at_call 13; (with_reducible refine (HbS.out _ _ rs11).mono ?_); rintro e w12 ⟨rfl, hb12⟩; have B12 := B11.trans (hb12.mono B11.size)))
      go_ret
      exact ⟨rfl, B12⟩
    · have n1 := bitN_pos hA
      by_cases hB : B = 0
      · subst hB
        rw [bitN_zero] at HbB
        rw [Nat.mul_zero, bitN_zero] at HbS
        rw [Nat.mul_zero] at rs9
        have hx : ((bitN A : Int) == 0) = false := beq_eq_false_iff_ne.2 (by omega)
        go_wp2_with (first
          | (go_at_call 13; (with_reducible refine (HbA.out _ _ (RL.out.below B9)).mono ?_); rintro e w10 ⟨rfl, hb10⟩; have B10 := B9.trans (hb10.mono B9.size); have rs10 := rs9.below hb10)
          | (go_at_call 13; (with_reducible refine (HbB.out _ _ (RM.out.below B10)).mono ?_); rintro e w11 ⟨rfl, hb11⟩; have B11 := B10.trans (hb11.mono B10.size); have rs11 := rs10.below hb11)
          | (go_at_call 13; (with_reducible refine (HbS.out _ _ rs11).mono ?_); rintro e w12 ⟨rfl, hb12⟩; have B12 := B11.trans (hb12.mono B11.size)))
        go_ret
        exact ⟨rfl, B12⟩
      · have n2 := bitN_pos hB
        have n3 := bitN_mul_ge hA hB
        have n4 := bitN_mul_le A B
        have hx : ((bitN A : Int) == 0) = false := beq_eq_false_iff_ne.2 (by omega)
        have hy : ((bitN B : Int) == 0) = false := beq_eq_false_iff_ne.2 (by omega)
        generalize bitN A = x at *
        generalize bitN B = y at *
        generalize bitN (A * B) = z at *
        rcases (by omega : z = x + y ∨ z + 1 = x + y) with hz | hz
        · have hz1 : ((z : Int) == (x : Int) + (y : Int)) = true := beq_iff_eq.2 (by omega)
          go_wp2_with (first
              | (go_at_call 13; (with_reducible refine (HbA.out _ _ (RL.out.below B9)).mono ?_); rintro e w10 ⟨rfl, hb10⟩; have B10 := B9.trans (hb10.mono B9.size); have rs10 := rs9.below hb10)
              | (go_at_call 13; (with_reducible refine (HbB.out _ _ (RM.out.below B10)).mono ?_); rintro e w11 ⟨rfl, hb11⟩; have B11 := B10.trans (hb11.mono B10.size); have rs11 := rs10.below hb11)
              | (go_at_call 13; (with_reducible refine (HbS.out _ _ rs11).mono ?_); rintro e w12 ⟨rfl, hb12⟩; have B12 := B11.trans (hb12.mono B11.size)))
          go_ret
          exact ⟨rfl, B12⟩
        · have hz1 : ((z : Int) == (x : Int) + (y : Int)) = false := beq_eq_false_iff_ne.2 (by omega)
          have hz2 : ((z : Int) == (x : Int) + (y : Int) - 1) = true := beq_iff_eq.2 (by omega)
          go_wp2_with (first
              | (go_at_call 13; (with_reducible refine (HbA.out _ _ (RL.out.below B9)).mono ?_); rintro e w10 ⟨rfl, hb10⟩; have B10 := B9.trans (hb10.mono B9.size); have rs10 := rs9.below hb10)
              | (go_at_call 13; (with_reducible refine (HbB.out _ _ (RM.out.below B10)).mono ?_); rintro e w11 ⟨rfl, hb11⟩; have B11 := B10.trans (hb11.mono B10.size); have rs11 := rs10.below hb11)
              | (go_at_call 13; (with_reducible refine (HbS.out _ _ rs11).mono ?_); rintro e w12 ⟨rfl, hb12⟩; have B12 := B11.trans (hb12.mono B11.size)))
          go_ret
          exact ⟨rfl, B12⟩
end Go.Proofs.Ytpdiplfenmkdhaa.PSquares
