/- series.Exp by its contracts. Conditions: math/bits' table stands in its variable. -/
import Derived.Test.YtecgimdgmilcbaaDoorSer5
import Derived.Test.YtecgimdgmilcbaaDoorExOk
namespace Go.Proofs.YtecgimdgmilcbaaDoor
set_option maxRecDepth 100000
open Go.RowKit Go.ChangeShapes Go.WideShapes
set_option linter.unusedVariables false
section
variable {w : World} {v u : Value} {A B s : Nat}

set_option maxHeartbeats 4000000 in
theorem Exp_ok (h : Num w v A) (k : Num w u B) (hT : Tab w) (s1 : 8 ≤ s) (s2 : s ≤ 9000) (hAB : A ≤ B) (hB : B ≤ 2 ^ s) :
    Calls Tryd.prog 18 #[v, u, .int .i64 (s : Int)] w fun e w' => ∃ vl vh L H, e = .returned (.tuple #[vl, vh, .int .i64 0]) ∧ RdN w' vl (digs BB L) ∧ RdN w' vh (digs BB H) ∧ ExOk A B s L H ∧ Below w.heap.size w w' := by
  have hS : 0 < 2 ^ s := Nat.two_pow_pos s
  obtain ⟨c1, e1⟩ : ∃ c, cmpN A B = c := ⟨_, rfl⟩
  have dc1 : decide (0 < c1) = false := decide_eq_false (by have := cmpN_le' hAB; omega)
  obtain ⟨c2, e2⟩ : ∃ c, cmpN B (2 ^ s) = c := ⟨_, rfl⟩
  have dc2 : decide (0 < c2) = false := decide_eq_false (by have := cmpN_le' hB; omega)
  have sS : bitN (2 ^ s) ≤ 9010 := bits_s s2 (by omega)
  have sA : bitN A ≤ 9010 := bits_s s2 (by omega)
  have sB : bitN B ≤ 9010 := bits_s s2 (by omega)
  have HSH : Hid (∀ w v, Num w v 1 → Calls Tryd.prog 17 #[v, .int .i64 (s : Int)] w (OneZ w (2 ^ s))) := Lib.hid (fun w v h => shl_n (n := s) h (Nat.one_mul _) (by rw [bitN_one]; omega))
  have E1 := Lib.hid e1; have E2 := Lib.hid e2
  have hg0 := hT.lt
  clear e1 e2
  go_enter Tryd.func18, Tryd.ntmps18
  go_upto_region 8 with
  (first
    | (go_at_call 32; (with_reducible refine (scale_ok s1 s2).mono ?_); rintro e w1 ⟨rfl, rfl⟩)
    | (go_at_call 22; (with_reducible refine (cmp_n h k E1.out).mono ?_); rintro e w2 ⟨rfl, hb2⟩; have B2 := hb2; have m2 := h.below hb2; have g2 := k.below hb2; have T2 := hT.below hb2; clear h k hT)
    | (go_at_call 46; (with_reducible refine (of_1).mono ?_); rintro e w3 ⟨vo3, rfl, o3, hb3⟩; have B3 := B2.trans (hb3.mono B2.size); have m3 := m2.below hb3; have g3 := g2.below hb3; have T3 := T2.below hb3; clear m2 g2 T2)
    | (go_at_call 17; (with_reducible refine (HSH.out _ _ (o3.num (by rw [bitN_one]; omega))).mono ?_); rintro e w4 ⟨vs4, rfl, s4, hb4⟩; have B4 := B3.trans (hb4.mono B3.size); have m4 := m3.below hb4; have g4 := g3.below hb4; have T4 := T3.below hb4; have o4 := o3.below hb4; clear m3 g3 T3 o3; obtain ⟨as4, ks4, rfl, -⟩ := s4.view; try simp only [List.length_nil] at s4)
    | (go_at_call 22; (with_reducible refine (cmp_n g4 (s4.num (by omega)) E2.out).mono ?_); rintro e w5 ⟨rfl, hb5⟩; have B5 := B4.trans (hb5.mono B4.size); have m5 := m4.below hb5; have g5 := g4.below hb5; have T5 := T4.below hb5; have o5 := o4.below hb5; have s5 := s4.below hb5; clear m4 g4 T4 o4 s4)
    | (go_at_call 44; (with_reducible refine (bare_n m5).mono ?_); rintro e w6 ⟨va6, rfl, a6, hb6⟩; have B6 := B5.trans (hb6.mono B5.size); have m6 := m5.below hb6; have g6 := g5.below hb6; have T6 := T5.below hb6; have o6 := o5.below hb6; have s6 := s5.below hb6; clear m5 g5 T5 o5 s5; obtain ⟨aa6, ka6, rfl, -⟩ := a6.view; try simp only [List.length_nil] at a6)
    | (go_at_call 44; (with_reducible refine (bare_n g6).mono ?_); rintro e w7 ⟨vb7, rfl, b7, hb7⟩; have B7 := B6.trans (hb7.mono B6.size); have m7 := m6.below hb7; have g7 := g6.below hb7; have T7 := T6.below hb7; have o7 := o6.below hb7; have s7 := s6.below hb7; have a7 := a6.below hb7; clear m6 g6 T6 o6 s6 a6; obtain ⟨ab7, kb7, rfl, -⟩ := b7.view; try simp only [List.length_nil] at b7)
    | fail)
  have l0 : w1.heap.size ≤ w7.heap.size := B7.size
  have I1 : InP (((w7.alloc (.cells #[.slice aa6 (digs BB A).length ka6, .slice ab7 (digs BB B).length kb7] 63 (0, 0))).alloc (.cells #[.slice as4 (digs BB (2 ^ s)).length ks4, .slice as4 (digs BB (2 ^ s)).length ks4] 63 (0, 0))).alloc (.cells #[.slice as4 (digs BB (2 ^ s)).length ks4, .slice as4 (digs BB (2 ^ s)).length ks4] 63 (0, 0))) w7.heap.size ⟨A, B⟩ := ⟨_, _, _, _, _, _, blk3_1, a7.below below_3, b7.below below_3⟩
  have I2 : InP (((w7.alloc (.cells #[.slice aa6 (digs BB A).length ka6, .slice ab7 (digs BB B).length kb7] 63 (0, 0))).alloc (.cells #[.slice as4 (digs BB (2 ^ s)).length ks4, .slice as4 (digs BB (2 ^ s)).length ks4] 63 (0, 0))).alloc (.cells #[.slice as4 (digs BB (2 ^ s)).length ks4, .slice as4 (digs BB (2 ^ s)).length ks4] 63 (0, 0))) (w7.heap.size + 1) (exS ⟨A, B⟩ (2 ^ s) 0) := ⟨_, _, _, _, _, _, blk3_2, s7.below below_3, s7.below below_3⟩
  have I3 : InP (((w7.alloc (.cells #[.slice aa6 (digs BB A).length ka6, .slice ab7 (digs BB B).length kb7] 63 (0, 0))).alloc (.cells #[.slice as4 (digs BB (2 ^ s)).length ks4, .slice as4 (digs BB (2 ^ s)).length ks4] 63 (0, 0))).alloc (.cells #[.slice as4 (digs BB (2 ^ s)).length ks4, .slice as4 (digs BB (2 ^ s)).length ks4] 63 (0, 0))) (w7.heap.size + 1 + 1) (exP ⟨A, B⟩ (2 ^ s) 0) := ⟨_, _, _, _, _, _, blk3_3, s7.below below_3, s7.below below_3⟩
  have T0 : Tab (((w7.alloc (.cells #[.slice aa6 (digs BB A).length ka6, .slice ab7 (digs BB B).length kb7] 63 (0, 0))).alloc (.cells #[.slice as4 (digs BB (2 ^ s)).length ks4, .slice as4 (digs BB (2 ^ s)).length ks4] 63 (0, 0))).alloc (.cells #[.slice as4 (digs BB (2 ^ s)).length ks4, .slice as4 (digs BB (2 ^ s)).length ks4] 63 (0, 0))) := T7.below below_3
  have B0 : Below w1.heap.size w1 (((w7.alloc (.cells #[.slice aa6 (digs BB A).length ka6, .slice ab7 (digs BB B).length kb7] 63 (0, 0))).alloc (.cells #[.slice as4 (digs BB (2 ^ s)).length ks4, .slice as4 (digs BB (2 ^ s)).length ks4] 63 (0, 0))).alloc (.cells #[.slice as4 (digs BB (2 ^ s)).length ks4, .slice as4 (digs BB (2 ^ s)).length ks4] 63 (0, 0))) := B7.trans (below_3.mono B7.size)
  clear m7 g7 o7 s7 a7 b7 T7 B2 B3 B4 B5 B6 B7 hb2 hb3 hb4 hb5 hb6 hb7
  generalize ((w7.alloc (.cells #[.slice aa6 (digs BB A).length ka6, .slice ab7 (digs BB B).length kb7] 63 (0, 0))).alloc (.cells #[.slice as4 (digs BB (2 ^ s)).length ks4, .slice as4 (digs BB (2 ^ s)).length ks4] 63 (0, 0))).alloc (.cells #[.slice as4 (digs BB (2 ^ s)).length ks4, .slice as4 (digs BB (2 ^ s)).length ks4] 63 (0, 0)) = w8 at *
  obtain ⟨bx, hbx⟩ : ∃ b, b = w7.heap.size := ⟨_, rfl⟩
  rw [← hbx] at I1 I2 I3 l0 ⊢
  clear hbx
  have HP := Lib.hid (fun k => And.intro (exP_small (X := ⟨A, B⟩) (S := 2 ^ s) hS hB k) (exP_le (X := ⟨A, B⟩) (S := 2 ^ s) hAB k))
  have HS := Lib.hid (fun k => And.intro (exS_small (X := ⟨A, B⟩) (S := 2 ^ s) hS hB k) (exS_le (X := ⟨A, B⟩) (S := 2 ^ s) hAB k))
  have HPb : Hid (∀ k, bitN (exP ⟨A, B⟩ (2 ^ s) k).lo ≤ 9010 ∧ bitN (exP ⟨A, B⟩ (2 ^ s) k).hi ≤ 9010) := Lib.hid (fun k => by
    obtain ⟨a1, a2⟩ := HP.out k
    exact ⟨bits_s s2 (by omega), bits_s s2 (by omega)⟩)
  have HSb : Hid (∀ k, k ≤ s + 2 → bitN (exS ⟨A, B⟩ (2 ^ s) k).lo ≤ 20000 ∧ bitN (exS ⟨A, B⟩ (2 ^ s) k).hi ≤ 20000) := Lib.hid (fun k hk => by
    obtain ⟨a1, a2⟩ := HS.out k
    have a5 : (k + 1) * 2 ^ s ≤ (s + 3) * 2 ^ s := Nat.mul_le_mul_right _ (by omega)
    exact ⟨bits_sum s2 (by omega), bits_sum s2 (by omega)⟩)
  have hend := Lib.hid (fun k => exP_end (X := ⟨A, B⟩) (s := s) (k := k) hB)
  have hok := Lib.hid (fun k => exS_ok (A := A) (B := B) (s := s) (k := k) s1 hAB hB)
  have hzero : Hid (∀ k, B = 0 → (exP ⟨A, B⟩ (2 ^ s) (k + 1)).hi = 0) := Lib.hid (fun k e => by
    rw [exP_succ]
    show cdiv (cdiv ((exP ⟨A, B⟩ (2 ^ s) k).hi * B) (2 ^ s)) (k + 1) = 0
    rw [e, Nat.mul_zero, cdiv_zero, cdiv_zero])
  have hwx : Hid (∀ k, bitN ((exP ⟨A, B⟩ (2 ^ s) k).times ⟨A, B⟩ (2 ^ s)).lo ≤ 9010 ∧ bitN ((exP ⟨A, B⟩ (2 ^ s) k).times ⟨A, B⟩ (2 ^ s)).hi ≤ 9010) := Lib.hid (fun k => by
    obtain ⟨a1, a2⟩ := HP.out k
    have h1 : cdiv ((exP ⟨A, B⟩ (2 ^ s) k).hi * B) (2 ^ s) ≤ (exP ⟨A, B⟩ (2 ^ s) k).hi := cdiv_le_of hS (Nat.mul_le_mul_left _ hB)
    have h2 : ((exP ⟨A, B⟩ (2 ^ s) k).lo * A) / (2 ^ s) ≤ (exP ⟨A, B⟩ (2 ^ s) k).lo := Nat.div_le_of_le_mul (by rw [Nat.mul_comm]; exact Nat.mul_le_mul_right _ (Nat.le_trans hAB hB))
    refine ⟨bits_s s2 ?_, bits_s s2 ?_⟩
    · show ((exP ⟨A, B⟩ (2 ^ s) k).lo * A) / (2 ^ s) ≤ _; omega
    · show cdiv ((exP ⟨A, B⟩ (2 ^ s) k).hi * B) (2 ^ s) ≤ _; omega)
  clear dc1 dc2 E1 E2 HSH hS hAB
  go_wp2_with fail
  go_loopw [14] (fun n wr => ∃ k : Nat, n = L64 (k + 1) ∧ k ≤ s + 1 ∧ (k = 0 ∨ 1 < (exP ⟨A, B⟩ (2 ^ s) k).hi) ∧ InP wr bx ⟨A, B⟩ ∧ InP wr (bx + 1) (exS ⟨A, B⟩ (2 ^ s) k) ∧ InP wr (bx + 1 + 1) (exP ⟨A, B⟩ (2 ^ s) k) ∧ Tab wr ∧ Below w1.heap.size w1 wr) (fun n _ => 2 * s + 10 - (intOf n).toNat)
  case atStart => exact ⟨0, rfl, by omega, .inl rfl, I1, I2, I3, T0, B0⟩
  case round =>
    clear I1 I2 I3 T0 B0
    obtain ⟨k, rfl, hk, hor, Ix, Is, It, T1, B1⟩ := hrel
    obtain ⟨nn, hnk⟩ : ∃ nn, k + 1 = nn := ⟨_, rfl⟩
    rw [hnk]
    obtain ⟨bT1, bT2⟩ := HPb.out k
    obtain ⟨bT3, bT4⟩ := HPb.out (k + 1)
    obtain ⟨bS1, bS2⟩ := HSb.out k (by omega)
    obtain ⟨bW1, bW2⟩ := hwx.out k
    obtain ⟨ta, tn, tk, tb, tm, tj, PT, xT, yT⟩ := id It
    obtain ⟨xa, xn, xk, xb, xm, xj, PX, xX, yX⟩ := id Ix
    obtain ⟨b0, eb0⟩ : ∃ b, bitN (exP ⟨A, B⟩ (2 ^ s) k).lo = b := ⟨_, rfl⟩
    obtain ⟨b1, eb1⟩ : ∃ b, bitN B = b := ⟨_, rfl⟩
    have hb : 0 < b0 + b1 := by
      rcases Nat.eq_zero_or_pos k with h | hk0
      · subst h
        have : b0 ≠ 0 := fun e => by
          have := eq_zero_of_bitN (eb0.trans e)
          have h2 := Nat.two_pow_pos s
          rw [show (exP ⟨A, B⟩ (2 ^ s) 0).lo = 2 ^ s from rfl] at this
          omega
        omega
      · rcases Nat.eq_zero_or_pos b1 with h1 | h1
        · exfalso
          obtain ⟨j, rfl⟩ : ∃ j, k = j + 1 := ⟨k - 1, by omega⟩
          have := hzero.out j (eq_zero_of_bitN (eb1.trans h1))
          omega
        · omega
    have wsum : IntKind.i64.wrap ((b0 : Int) + (b1 : Int)) = (b0 : Int) + (b1 : Int) := by rw [IntKind.wrap_i64]; omega
    have dsum : decide (0 < (b0 : Int) + (b1 : Int)) = true := decide_eq_true (by omega)
    have Eb0 := Lib.hid eb0; have Eb1 := Lib.hid eb1
    clear eb0 eb1 hb
    obtain ⟨c0, c1, g0, g1, -⟩ := PT.open2
    obtain ⟨c2, c3, g2, g3, -⟩ := PX.open2
    have D : Below wr.heap.size wr wr.drew := below_drewN (Below.refl _ _) 1
    have xTd := xT.below D; have yTd := yT.below D; have xXd := xX.below D; have yXd := yX.below D; have PTd := PT.below D; have PXd := PX.below D
    have Ixd := Ix.below D; have Isd := Is.below D; have Itd := It.below D; have Td := T1.below D; have Bd := B1.trans (D.mono B1.size)
    have k2 := Lib.hid (cells22 PTd PXd)
    clear D xT yT xX yX Ix Is It T1 B1 PT PX
    go_upto_region 9 with fail
    go_region_held3 (fun w' => w'.cell? ⟨bx + 1 + 1, 0, none⟩ = some (.slice ta tn tk) ∧ w'.cell? ⟨bx + 1 + 1, 1, none⟩ = some (.slice tb tm tj) ∧ w'.cell? ⟨bx, 0, none⟩ = some (.slice xa xn xk) ∧ w'.cell? ⟨bx, 1, none⟩ = some (.slice xb xm xj))
      (first | exact k2.out | exact k3.out | exact k4.out)
      (first
        | (go_at_call 33; (with_reducible refine (bits_n (xTd.num (by omega)) Eb0.out).mono ?_); rintro e w3 ⟨rfl, h3⟩; have yX3 := yXd.below h3; have xX3 := xXd.below h3; have xT3 := xTd.below h3; have yT3 := yTd.below h3; have PT3 := PTd.below h3; have PX3 := PXd.below h3; have k3 := Lib.hid (cells22 PT3 PX3); have Ix3 := Ixd.below h3; have Is3 := Isd.below h3; have It3 := Itd.below h3; have T3 := Td.below h3; have B3 := Bd.trans (h3.mono Bd.size))
        | (go_at_call 33; (with_reducible refine (bits_n (yX3.num (by omega)) Eb1.out).mono ?_); rintro e w4 ⟨rfl, h4⟩; have yX4 := yX3.below h4; have xX4 := xX3.below h4; have xT4 := xT3.below h4; have yT4 := yT3.below h4; have PT4 := PT3.below h4; have PX4 := PX3.below h4; have k4 := Lib.hid (cells22 PT4 PX4); have Ix4 := Ix3.below h4; have Is4 := Is3.below h4; have It4 := It3.below h4; have T4 := T3.below h4; have B4 := B3.trans (h4.mono B3.size))
        | fail)
    go_upto_region 11 with fail
    clear xTd yTd xXd yXd PTd PXd Ixd Isd Itd Td Bd k2 yX3 xX3 xT3 yT3 PT3 PX3 k3 Ix3 Is3 It3 T3 B3 k4 c0 c1 c2 c3 g0 g1 g2 g3 h3 h4 Eb0 Eb1
    have hor0 := Lib.hid hor
    clear hor
    obtain ⟨Tk, hTk⟩ : ∃ T, T = exP ⟨A, B⟩ (2 ^ s) k := ⟨_, rfl⟩
    obtain ⟨Sk, hSk⟩ : ∃ T, T = exS ⟨A, B⟩ (2 ^ s) k := ⟨_, rfl⟩
    obtain ⟨T', hT'⟩ : ∃ T', T' = exP ⟨A, B⟩ (2 ^ s) (k + 1) := ⟨_, rfl⟩
    obtain ⟨S', hS'⟩ : ∃ S', S' = exS ⟨A, B⟩ (2 ^ s) (k + 1) := ⟨_, rfl⟩
    rw [← hTk] at It4 xT4 yT4 bT1 bT2 bW1 bW2
    rw [← hSk] at Is4 bS1 bS2
    rw [← hT'] at bT3 bT4
    have hTs : Hid (T' = (Tk.times ⟨A, B⟩ (2 ^ s)).by nn) := Lib.hid (by rw [hT', hTk, ← hnk]; rfl)
    have hSs : Hid (S' = Sk.plus T') := Lib.hid (by rw [hS', hSk, hT']; rfl)
    have hTk' := Lib.hid hTk; have hSk' := Lib.hid hSk; have hT2 := Lib.hid hT'; have hS2 := Lib.hid hS'
    clear hTk hSk hT' hS'
    have hn : nn < BB := by rw [show BB = 18446744073709551616 from rfl]; omega
    have hnn : nn ≠ 0 := by omega
    have sA' : bitN (Pr.mk A B).lo ≤ 9010 := sA
    have sB' : bitN (Pr.mk A B).hi ≤ 9010 := sB
    go_cut [] (fun wx => InP wx bx ⟨A, B⟩ ∧ InP wx (bx + 1) Sk ∧ InP wx (bx + 1 + 1) T' ∧ Tab wx ∧ Below w1.heap.size w1 wx)
    case first =>
      obtain ⟨c0, c1, g0, g1, -⟩ := PT4.open2
      obtain ⟨c2, c3, g2, g3, -⟩ := PX4.open2
      go_wp2_with
        (first
          | (go_at_call 35; (with_reducible refine (ptimes_n (n := s) (p := Tk) (q := ⟨A, B⟩) (xT4.num (by omega)) (yT4.num (by omega)) (xX4.num (by omega)) (yX4.num (by omega)) T4 (by omega) (by omega) (by omega) (by omega) (by omega)).mono ?_); rintro e w6 ⟨pa, pn, pk, pb, pm, pj, rfl, x6, y6, h6⟩; have It6 := It4.below h6; have Ix6 := Ix4.below h6; have Is6 := Is4.below h6; have T6 := T4.below h6; have B6 := B4.trans (h6.mono B4.size); have PT6 := PT4.below h6)
          | (go_at_call 37; (with_reducible refine (pby_n (p := Tk.times ⟨A, B⟩ (2 ^ s)) (n := nn) (x6.num (by omega)) (y6.num (by omega)) hn hnn (by omega)).mono ?_); rintro e w7 ⟨qa, qn, qk, qb, qm, qj, rfl, x7, y7, h7⟩; have It7 := It6.below h7; have Ix7 := Ix6.below h7; have Is7 := Is6.below h7; have T7 := T6.below h7; have B7 := B6.trans (h7.mono B6.size); have PT7 := PT6.below h7; obtain ⟨d0, d1, f0, f1, -⟩ := PT7.open2)
          | fail)
      go_meet
      refine ⟨Ix7.other It7 (by omega) _ _, Is7.other It7 (by omega) _ _, It7.store (by rw [hTs.out]; exact x7) (by rw [hTs.out]; exact y7), T7.set2 (by omega) _ _, below_set (below_set B7 (by omega) _) (by omega) _⟩
    case rest =>
      clear Ix4 Is4 It4 T4 B4 PT4 PX4 xT4 yT4 xX4 yX4 hTs bW1 bW2 bT1 bT2
      obtain ⟨Ix, Is, It, T1, B1⟩ := hcut
      go_upto_region 12 with fail
      go_cut [] (fun wx => InP wx bx ⟨A, B⟩ ∧ InP wx (bx + 1) S' ∧ InP wx (bx + 1 + 1) T' ∧ Tab wx ∧ Below w1.heap.size w1 wx)
      case first =>
        obtain ⟨ta, tn, tk, tb, tm, tj, PT, xT, yT⟩ := id It
        obtain ⟨xa, xn, xk, xb, xm, xj, PS, xS, yS⟩ := id Is
        obtain ⟨c0, c1, g0, g1, -⟩ := PT.open2
        obtain ⟨c2, c3, g2, g3, -⟩ := PS.open2
        go_wp2_with
          (first
            | (go_at_call 36; (with_reducible refine (pplus_n (p := Sk) (q := T') (xS.num (by omega)) (yS.num (by omega)) (xT.num (by omega)) (yT.num (by omega))).mono ?_); rintro e w6 ⟨pa, pn, pk, pb, pm, pj, rfl, x6, y6, h6⟩; have It6 := It.below h6; have Ix6 := Ix.below h6; have Is6 := Is.below h6; have T6 := T1.below h6; have B6 := B1.trans (h6.mono B1.size); have PS6 := PS.below h6; obtain ⟨d0, d1, f0, f1, -⟩ := PS6.open2)
            | fail)
        go_meet
        refine ⟨Ix6.other Is6 (by omega) _ _, Is6.store (by rw [hSs.out]; exact x6) (by rw [hSs.out]; exact y6), It6.other Is6 (by omega) _ _, T6.set2 (by omega) _ _, below_set (below_set B6 (by omega) _) (by omega) _⟩
      case rest =>
        clear Ix Is It T1 B1 hSs bS1 bS2
        obtain ⟨Ix, Is, It, T1, B1⟩ := hcut
        go_upto_region 13 with fail
        have Hok := Lib.hid (hok.out k)
        have He := Lib.hid (hend.out k)
        rw [← hS2.out, ← hT2.out] at Hok
        rw [← hT2.out] at He
        obtain ⟨bS1, bS2⟩ := HSb.out (k + 1) (by omega)
        rw [← hS2.out] at bS1 bS2
        obtain ⟨ta, tn, tk, tb, tm, tj, PT, xT, yT⟩ := id It
        obtain ⟨sa, sn, sk, sb, sm, sj, PS, xS, yS⟩ := id Is
        obtain ⟨c0, c1, g0, g1, -⟩ := PT.open2
        obtain ⟨c2, c3, g2, g3, -⟩ := PS.open2
        obtain ⟨b2, eb2⟩ : ∃ b, bitN T'.hi = b := ⟨_, rfl⟩
        have Eb2 := Lib.hid eb2
        by_cases hle : T'.hi ≤ 1
        · have hb2 : b2 ≤ 1 := by rw [← eb2]; exact bitN_le.2 (by omega)
          have db : decide ((b2 : Int) ≤ 1) = true := decide_eq_true (by omega)
          have hks : k ≤ s := by
            rcases Nat.eq_zero_or_pos k with h | h
            · omega
            · have := hor0.out
              rcases this with h1 | h1
              · omega
              · obtain ⟨j, rfl⟩ : ∃ j, k = j + 1 := ⟨k - 1, by omega⟩
                exact hend.out j h1
          have hAt := Hok.out hks hle
          clear eb2
          go_upto_region 15 with
          (first
            | (go_at_call 33; (with_reducible refine (bits_n (yT.num (by omega)) Eb2.out).mono ?_); rintro e w21 ⟨rfl, hb21⟩; have B21 := B1.trans (hb21.mono B1.size); have x21 := xT.below hb21; have y21 := yT.below hb21; have z21 := xS.below hb21; have v21 := yS.below hb21; have P21 := PT.below hb21; have Q21 := PS.below hb21; have T21 := T1.below hb21; clear xT yT xS yS PT PS T1; obtain ⟨cP0_21, cP1_21, fP0_21, fP1_21, sP_21⟩ := P21.open2; obtain ⟨cQ0_21, cQ1_21, fQ0_21, fQ1_21, sQ_21⟩ := Q21.open2)
            | (go_at_call 38; (with_reducible refine (prest_n (p := S') (q := T') z21 (v21.num (by omega)) (y21.num (by omega)) (by omega)).mono ?_); rintro e w22 ⟨pa, pn, pk, pb, pm, pj, rfl, f22, g22, hb22⟩; have B22 := B21.trans (hb22.mono B21.size); have x22 := x21.below hb22; have y22 := y21.below hb22; have z22 := z21.below hb22; have v22 := v21.below hb22; have P22 := P21.below hb22; have Q22 := Q21.below hb22; have T22 := T21.below hb22; clear x21 y21 z21 v21 P21 Q21 T21; clear cP0_21 cP1_21 fP0_21 fP1_21 sP_21; obtain ⟨cP0_22, cP1_22, fP0_22, fP1_22, sP_22⟩ := P22.open2; clear cQ0_21 cQ1_21 fQ0_21 fQ1_21 sQ_21; obtain ⟨cQ0_22, cQ1_22, fQ0_22, fQ1_22, sQ_22⟩ := Q22.open2)
            | fail)
          have cells := Q22.open2
          obtain ⟨c0, c1, g0, g1, -⟩ := cells
          go_quiet (fail)
          go_wp2
          go_ret3
          exact ⟨_, _, _, _, rfl, f22.set2 Q22 pcells _ _, g22.set2 Q22 pcells _ _, hAt, below_drewN (below_set (below_set B22 (by omega) _) (by omega) _) _⟩
        · have hb2 : 2 ≤ b2 := by
            rcases Nat.lt_or_ge b2 2 with h | h
            · exfalso
              have h1 := bitN_lt T'.hi
              rw [eb2] at h1
              have h2 : 2 ^ b2 ≤ 2 ^ 1 := Nat.pow_le_pow_right (by omega) (by omega)
              omega
            · exact h
          have db : decide ((b2 : Int) ≤ 1) = false := decide_eq_false (by omega)
          have hk1 := He.out (by omega)
          have wn : IntKind.u64.wrap ((nn : Int) + 1) = (nn : Int) + 1 := by rw [IntKind.wrap_u64]; omega
          clear eb2
          unfold L64
          go_wp2_with
          (first
            | (go_at_call 33; (with_reducible refine (bits_n (yT.num (by omega)) Eb2.out).mono ?_); rintro e w21 ⟨rfl, hb21⟩; have B21 := B1.trans (hb21.mono B1.size); have I21 := Ix.below hb21; have J21 := Is.below hb21; have K21 := It.below hb21; have P21 := PT.below hb21; have T21 := T1.below hb21; have y21 := yT.below hb21; clear Ix Is It PT T1 yT; obtain ⟨cP0_21, cP1_21, fP0_21, fP1_21, sP_21⟩ := P21.open2)
            | fail)
          go_roundw
          case rel =>
            refine ⟨k + 1, ?_, by omega, .inr (by rw [← hT2.out]; omega), I21, (show InP _ (bx + 1) (exS ⟨A, B⟩ (2 ^ s) (k + 1)) by rw [← hS2.out]; exact J21), (show InP _ (bx + 1 + 1) (exP ⟨A, B⟩ (2 ^ s) (k + 1)) by rw [← hT2.out]; exact K21), T21, B21⟩
            congr 1
            omega
          case measure => simp [intOf]; omega
end
end Go.Proofs.YtecgimdgmilcbaaDoor
