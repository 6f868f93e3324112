/- planimeterref11.Below by its contract. Conditions: the number is near (as planimeterref11.Near says). -/
import Derived.Test.YtabdmnjdmnnejaaDoorTl1
import Derived.Test.YtabdmnjdmnnejaaDoorEx8
import Derived.Deep.RegionHeld3
namespace Go.Proofs.YtabdmnjdmnnejaaDoor
set_option maxRecDepth 100000
open Go.RowKit Go.ChangeShapes Go.WideShapes
set_option linter.unusedVariables false

theorem RC10_n {w : World} {u u2 : Value} {M B k : Nat} {E m EB : Int} (h : RdD w u (digs DD M)) (h' : RdD w u2 (digs DD B)) (hM : M ≠ 0) (hB : B ≠ 0) (m1 : m.natAbs ≤ 60) (k2 : k ≤ 40) (sM : bitN M ≤ 2000) (sMm : bitN M * m.natAbs ≤ 1500) (sE : E.natAbs ≤ 2000) (sB : bitN B ≤ 54) (sEB : EB.natAbs ≤ 1100) :
    Calls Tryd.prog 39 #[.agg #[.bool false, u, .int .i64 E], .int .i64 m, .agg #[.bool false, u2, .int .i64 EB], .int .i64 k] w (fun e w' => e = .returned (.int .i64 (cmp10 M E m B EB k)) ∧ Below w.heap.size w w') := by
  have i1 : (E * (m.natAbs : Int)).natAbs ≤ 200000 := by
    rw [Int.natAbs_mul, Int.natAbs_natCast]
    exact Nat.le_trans (Nat.mul_le_mul sE m1) (by decide)
  have i2 : (EB * (k : Int)).natAbs ≤ 200000 := by
    rw [Int.natAbs_mul, Int.natAbs_natCast]
    exact Nat.le_trans (Nat.mul_le_mul sEB k2) (by decide)
  have i3 : bitN B * k ≤ 60000 := Nat.le_trans (Nat.mul_le_mul sB k2) (by decide)
  exact RCmp10_n (k1 := m.natAbs) h h' hM hB rfl (by omega) (by omega) (by omega) (by omega) (by omega) i3 rfl rfl rfl rfl i1 i2 (fun h => by unfold cmp10; rw [if_pos h]) (fun h => by unfold cmp10; rw [if_neg (by omega)])

/-- What is near. -/
def nearX (M : Nat) (E m : Int) (k : Nat) : Prop := M ≠ 0 ∧ m.natAbs ≤ 60 ∧ 1 ≤ k ∧ k ≤ 40 ∧ bitN M ≤ 2000 ∧ bitN M * m.natAbs ≤ 1500 ∧ E.natAbs ≤ 2000
theorem RC10_sz {w : World} {u u2 : Value} {M B k s : Nat} {E m EB : Int} (hn : nearX M E m k) (h1 : 1 ≤ s) (h2 : s ≤ 9218868437227405312) (e : bareD ⟨false, sigF s, unitE s⟩ = ⟨false, B, EB⟩) (h : RdD w u (digs DD M)) (h' : RdD w u2 (digs DD B)) :
    Calls Tryd.prog 39 #[.agg #[.bool false, u, .int .i64 E], .int .i64 m, .agg #[.bool false, u2, .int .i64 EB], .int .i64 k] w (fun r w' => r = .returned (.int .i64 (czOf M E m k s)) ∧ Below w.heap.size w w') := by
  obtain ⟨n1, n2, n3, n4, n5, n6, n7⟩ := hn
  obtain ⟨-, o, b, f, -, l⟩ := bare_size h1 h2 e
  have hu1 := unitE_ge s; have hu2 := unitE_le h2
  have := RC10_n h h' n1 (show B ≠ 0 by omega) n2 n4 n5 n6 n7 (by omega) (show EB.natAbs ≤ 1100 by omega)
  unfold czOf
  rw [e]
  exact this

set_option maxHeartbeats 4000000 in
theorem RBelow_n {w : World} {u : Value} {M k : Nat} {E m : Int} (hn : nearX M E m k) (h : RdD w u (digs DD M)) :
    Calls Tryd.prog 38 #[.agg #[.bool false, u, .int .i64 E], .int .i64 m, .int .i64 k] w (fun e w' => ∃ low : Nat, e = .returned (L64 low) ∧ BelowR (czOf M E m k) low ∧ Below w.heap.size w w') := by
  obtain ⟨au, nu, ku, rfl⟩ := h.slice
  have HT := Lib.hid (fun w v u (h : RdD w v (digs DD M)) (h' : RdD w u (digs DD 1)) => RC10_sz (s := 9218868437227405312) hn (by decide) (by decide) (show bareD ⟨false, sigF 9218868437227405312, unitE 9218868437227405312⟩ = ⟨false, 1, 1024⟩ from by
    generalize hq : bareD ⟨false, sigF 9218868437227405312, unitE 9218868437227405312⟩ = d
    obtain ⟨n', B, EB⟩ := d
    obtain ⟨rfl, rfl, rfl⟩ := bare_top hq
    rfl) h h')
  have HZ := Lib.hid (fun w v u s B EB (h1 : 1 ≤ s) (h2 : s ≤ 9218868437227405312) (e : bareD ⟨false, sigF s, unitE s⟩ = ⟨false, B, EB⟩) (h : RdD w v (digs DD M)) (h' : RdD w u (digs DD B)) => RC10_sz hn h1 h2 e h h')
  clear hn
  generalize czOf M E m k = cz at *
  have P := blk_new (w := w) (T := 30) (c := #[.bool false, .slice au nu ku, .int .i64 E])
  have B0 := below_alloc w (.cells #[.bool false, .slice au nu ku, .int .i64 E] 30 (0, 0))
  have x0 := h.below B0
  clear h
  obtain ⟨ct, hct⟩ : ∃ c, cz 9218868437227405312 = c := ⟨_, rfl⟩
  rw [hct] at HT
  by_cases hge : 0 ≤ ct
  · have dc : decide (0 ≤ ct) = true := decide_eq_true hge
    have hR : BelowR cz 9218868437227405312 := ⟨Nat.le_refl _, .inr (by rw [hct]; exact hge), fun h => absurd h (by decide)⟩
    have hR := Lib.hid hR
    clear hge hct HZ
    go_enter Tryd.func38, Tryd.ntmps38
    go_upto_region 2 with fail
    generalize w.alloc (.cells #[.bool false, .slice au nu ku, .int .i64 E] 30 (0, 0)) = w0 at *
    have Dw : Below w0.heap.size w0 w0.drew := below_drewN (Below.refl _ _) 1
    have Pd := P.below Dw; have xd := x0.below Dw; have Bd := B0.trans (Dw.mono B0.size)
    have zd := Lib.hid (cells33x Pd)
    clear P x0 B0
    go_region_held3 (fun w' => w'.cell? ⟨w.heap.size, 0, none⟩ = some (.bool false) ∧ w'.cell? ⟨w.heap.size, 1, none⟩ = some (.slice au nu ku) ∧ w'.cell? ⟨w.heap.size, 2, none⟩ = some (.int .i64 E))
      (first | exact zd.out | exact z1.out | exact z2.out)
      (first
        | (go_at_call 40; (with_reducible refine (RLimit_n).mono ?_); rintro e y1 ⟨v1, rfl, l1, hz1⟩; obtain ⟨a1, k1, rfl, -⟩ := l1.view; have x1 := xd.below hz1; have P1 := Pd.below hz1; have B1 := Bd.trans (hz1.mono Bd.size); have z1 := Lib.hid (cells33x P1))
        | (go_at_call 39; (with_reducible refine (HT.out _ _ _ x1 l1).mono ?_); rintro e y2 ⟨rfl, hz2⟩; have P2 := P1.below hz2; have B2 := B1.trans (hz2.mono B1.size); have z2 := Lib.hid (cells33x P2))
        | fail)
    all_goals
      go_wp2_with fail
      go_ret
      exact ⟨9218868437227405312, rfl, hR.out, by assumption⟩
  · have dc : decide (0 ≤ ct) = false := decide_eq_false hge
    have hct0 := Lib.hid (show cz 9218868437227405312 < 0 by omega)
    clear hct hge
    go_enter Tryd.func38, Tryd.ntmps38
    go_upto_region 2 with fail
    generalize w.alloc (.cells #[.bool false, .slice au nu ku, .int .i64 E] 30 (0, 0)) = w0 at *
    go_cut [7, 8, 15] (fun a b t w' => a = L64 0 ∧ b = L64 9218868437227405312 ∧ t = .bool false ∧ Below w0.heap.size w0 w')
    case first =>
      have Dw : Below w0.heap.size w0 w0.drew := below_drewN (Below.refl _ _) 1
      have Pd := P.below Dw; have xd := x0.below Dw
      have zd := Lib.hid (cells33x Pd)
      clear P x0 B0 HZ hct0
      go_region_held3 (fun w' => w'.cell? ⟨w.heap.size, 0, none⟩ = some (.bool false) ∧ w'.cell? ⟨w.heap.size, 1, none⟩ = some (.slice au nu ku) ∧ w'.cell? ⟨w.heap.size, 2, none⟩ = some (.int .i64 E))
        (first | exact zd.out | exact z1.out | exact z2.out)
        (first
          | (go_at_call 40; (with_reducible refine (RLimit_n).mono ?_); rintro e y1 ⟨v1, rfl, l1, hz1⟩; obtain ⟨a1, k1, rfl, -⟩ := l1.view; have x1 := xd.below hz1; have P1 := Pd.below hz1; have B1 := Dw.trans (hz1.mono Dw.size); have z1 := Lib.hid (cells33x P1))
          | (go_at_call 39; (with_reducible refine (HT.out _ _ _ x1 l1).mono ?_); rintro e y2 ⟨rfl, hz2⟩; have P2 := P1.below hz2; have B2 := B1.trans (hz2.mono B1.size); have z2 := Lib.hid (cells33x P2))
          | fail)
      all_goals
        go_wp2_with fail
        go_meet
        exact ⟨rfl, rfl, rfl, by assumption⟩
    case rest =>
      obtain ⟨rfl, rfl, rfl, hb2⟩ := hcut
      generalize hwx : wc = w2 at *
      clear hwx
      have P2 := P.below hb2; have x2 := x0.below hb2; have B2 := B0.trans (hb2.mono B0.size)
      clear P x0 B0 hb2 HT dc
      go_wp2_with fail
      go_loopw [7, 8] (fun a b wr => ∃ x y : Nat, a = L64 x ∧ b = L64 y ∧ x < y ∧ y ≤ 9218868437227405312 ∧ (x = 0 ∨ 0 ≤ cz x) ∧ cz y < 0 ∧ Below w2.heap.size w2 wr) (fun a b _ => (intOf b).toNat - (intOf a).toNat)
      case atStart => exact ⟨0, 9218868437227405312, rfl, rfl, by decide, by decide, .inl rfl, hct0.out, Below.refl _ _⟩
      case round =>
        obtain ⟨x, y, rfl, rfl, h3, h4, h5, h6, hB⟩ := hrel
        have h5 := Lib.hid h5; have h6 := Lib.hid h6
        obtain ⟨d, hd⟩ : ∃ d : Nat, y = x + d := ⟨y - x, by omega⟩
        have ws : IntKind.u64.wrap ((y : Int) - (x : Int)) = (d : Int) := by rw [IntKind.wrap_u64]; omega
        by_cases hd1 : 1 < d
        · have dd : decide (1 < (d : Int)) = true := decide_eq_true (by omega)
          have dn : decide (1 < d) = true := decide_eq_true hd1
          obtain ⟨hh, ehh⟩ : ∃ h, d / 2 = h := ⟨_, rfl⟩
          have wq : (d : Int).tdiv 2 = (hh : Int) := by rw [← ehh]; rfl
          have wq2 : IntKind.u64.wrap (hh : Int) = (hh : Int) := by rw [IntKind.wrap_u64]; omega
          obtain ⟨mid, emid⟩ : ∃ m, x + hh = m := ⟨_, rfl⟩
          have wm : IntKind.u64.wrap ((x : Int) + (hh : Int)) = (mid : Int) := by rw [IntKind.wrap_u64]; omega
          have m1 : x < mid ∧ mid < y := by omega
          obtain ⟨bd, hq⟩ : ∃ b, bareD ⟨false, sigF mid, unitE mid⟩ = b := ⟨_, rfl⟩
          obtain ⟨n', B, EB⟩ := bd
          obtain ⟨rfl, -⟩ := bare_size (s := mid) (by omega) (by omega) hq
          have HW := Lib.hid (fun w => RWorth_n (w := w) (s := mid) (by omega) hq)
          have HM := Lib.hid (fun w v u => HZ.out w v u mid B EB (by omega) (by omega) hq)
          have hB := Lib.hid hB
          have m1 := Lib.hid m1
          have h4 := Lib.hid h4
          clear hd h3 ehh hq emid HZ
          have P3 := P2.below hB.out; have x3 := x2.below hB.out
          rename World => wr
          have Dw : Below wr.heap.size wr wr.drew := below_drewN (Below.refl _ _) 1
          have Pd := P3.below Dw; have xd := x3.below Dw
          have zd := Lib.hid (cells33x Pd)
          clear P2 x2 P3 x3 B2
          obtain ⟨cm, hcm⟩ : ∃ c, cz mid = c := ⟨_, rfl⟩
          rw [hcm] at HM
          have hcm := Lib.hid hcm
          by_cases hge : 0 ≤ cm
          · have dc : decide (0 ≤ cm) = true := decide_eq_true hge
            have hge := Lib.hid hge
            go_upto_region 6 with fail
            go_region_held3 (fun w' => w'.cell? ⟨w.heap.size, 0, none⟩ = some (.bool false) ∧ w'.cell? ⟨w.heap.size, 1, none⟩ = some (.slice au nu ku) ∧ w'.cell? ⟨w.heap.size, 2, none⟩ = some (.int .i64 E))
              (first | exact zd.out | exact z1.out | exact z2.out)
              (first
                | (go_at_call 41; (with_reducible refine (HW.out _).mono ?_); rintro e y1 ⟨v1, rfl, l1, hz1⟩; obtain ⟨a1, k1, rfl, -⟩ := l1.view; have x1 := xd.below hz1; have P1 := Pd.below hz1; have B1 := Dw.trans (hz1.mono Dw.size); have z1 := Lib.hid (cells33x P1))
                | (go_at_call 39; (with_reducible refine (HM.out _ _ _ x1 l1).mono ?_); rintro e y2 ⟨rfl, hz2⟩; have P2 := P1.below hz2; have B2 := B1.trans (hz2.mono B1.size); have z2 := Lib.hid (cells33x P2))
                | fail)
            all_goals
              go_wp2_with fail
              go_round
              case rel => exact ⟨mid, y, rfl, rfl, m1.out.2, h4.out, .inr (by rw [hcm.out]; exact hge.out), h6.out, hB.out.trans (B2.mono hB.out.size)⟩
              case measure => exact (by have := m1.out; simp [intOf]; omega)
          · have dc : decide (0 ≤ cm) = false := decide_eq_false hge
            have hlt := Lib.hid (show cm < 0 by omega)
            clear hge
            go_upto_region 6 with fail
            go_region_held3 (fun w' => w'.cell? ⟨w.heap.size, 0, none⟩ = some (.bool false) ∧ w'.cell? ⟨w.heap.size, 1, none⟩ = some (.slice au nu ku) ∧ w'.cell? ⟨w.heap.size, 2, none⟩ = some (.int .i64 E))
              (first | exact zd.out | exact z1.out | exact z2.out)
              (first
                | (go_at_call 41; (with_reducible refine (HW.out _).mono ?_); rintro e y1 ⟨v1, rfl, l1, hz1⟩; obtain ⟨a1, k1, rfl, -⟩ := l1.view; have x1 := xd.below hz1; have P1 := Pd.below hz1; have B1 := Dw.trans (hz1.mono Dw.size); have z1 := Lib.hid (cells33x P1))
                | (go_at_call 39; (with_reducible refine (HM.out _ _ _ x1 l1).mono ?_); rintro e y2 ⟨rfl, hz2⟩; have P2 := P1.below hz2; have B2 := B1.trans (hz2.mono B1.size); have z2 := Lib.hid (cells33x P2))
                | fail)
            all_goals
              go_wp2_with fail
              go_round
              case rel => exact ⟨x, mid, rfl, rfl, m1.out.1, Nat.le_trans (Nat.le_of_lt m1.out.2) h4.out, h5.out, by rw [hcm.out]; exact hlt.out, hB.out.trans (B2.mono hB.out.size)⟩
              case measure => exact (by have := m1.out; simp [intOf]; omega)
        · have dd : decide (1 < (d : Int)) = false := decide_eq_false (by omega)
          have dn : decide (1 < d) = false := decide_eq_false hd1
          have hR : BelowR cz x := ⟨by omega, h5.out, fun _ => by rw [show x + 1 = y by omega]; exact h6.out⟩
          have hR := Lib.hid hR
          have hB := Lib.hid hB
          clear hd h3 h4 h5 h6 hd1 HZ
          go_wp2_with fail
          go_ret
          exact ⟨x, rfl, hR.out, B2.trans (hB.out.mono B2.size)⟩
end Go.Proofs.YtabdmnjdmnnejaaDoor
