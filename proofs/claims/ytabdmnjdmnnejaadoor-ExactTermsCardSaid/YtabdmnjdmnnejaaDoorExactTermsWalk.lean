/- ExactTerms returns true and leaves what was there: the walk. Conditions: math/bits' table stands in its variable. -/
import Derived.Test.YtabdmnjdmnnejaaDoorEx10
import Derived.Test.YtabdmnjdmnnejaaDoorRefC
import Derived.Test.YtabdmnjdmnnejaaDoorRefE
import Derived.Test.YtabdmnjdmnnejaaDoorOnceLaw
import Derived.Test.YtabdmnjdmnnejaaDoorTermsLaw
import Derived.Test.YtabdmnjdmnnejaaDoorRatA
import Derived.BigQuiet
namespace Go.Proofs.YtabdmnjdmnnejaaDoor.PETerms
set_option maxRecDepth 100000
open Go.RowKit Go.Proofs.YtabdmnjdmnnejaaDoor
set_option linter.unusedVariables false
set_option linter.unusedSimpArgs false

theorem RdD.putP {w : World} {v : Value} {l : List Nat} {b : Nat} {c : Array Value} (h : RdD w v l) (hB : Blk w b c) (hc : ∀ x ∈ c.toList, ∀ n : Nat, x ≠ D32 n) (o : Nat) (x : Value) : RdD (w.setCell ⟨b, o, none⟩ x) v l := by
  have ha : Rd (fun g => g ≠ b) w v (l.map D32) := by
    obtain ⟨a, k, h1, h2, h3, h4, h5⟩ := h
    obtain ⟨hb, T, hh⟩ := hB
    refine ⟨a, k, h1, h2, h3, h4, fun j u hj => ?_⟩
    obtain ⟨g, off, e1, _, e3⟩ := h5 j u hj
    refine ⟨g, off, e1, fun e => ?_, e3⟩
    subst e
    rw [World.cell?, hh] at e3
    obtain ⟨n, -, rfl⟩ := List.mem_map.1 (List.mem_of_getElem? hj)
    have e4 : c[off + j]? = some (D32 n) := by simpa using e3
    exact hc _ (by rw [← Array.getElem?_toList] at e4; exact List.mem_of_getElem? e4) n rfl
  have h2 := ha.keep (S := fun g => g = b) ((Fr.refl (fun g => g = b) w).setCell (p := ⟨b, o, none⟩) rfl x) (fun _ h => h)
  exact h2.mono (fun _ _ _ => trivial)

theorem two_ge (d : Nat) : (1 : Int) ≤ ((2 ^ d : Nat) : Int) := by have := Nat.two_pow_pos d; omega
theorem half_of {t1 : Nat} {v v1 : Int} (h : t1 + 1 ≤ 62) (hv : ((2 ^ (t1 + 1) : Nat) : Int) = v) (hv1 : ((2 ^ t1 : Nat) : Int) = v1) : v = 2 * v1 ∧ 1 ≤ v1 ∧ v ≤ 4611686018427387904 := by
  have h1 : v = 2 * v1 := by rw [← hv, ← hv1, Nat.pow_succ, Int.natCast_mul, Int.mul_comm]; rfl
  have h2 : v ≤ 4611686018427387904 := by
    rw [← hv]
    exact Int.ofNat_le.2 (show 2 ^ (t1 + 1) ≤ 2 ^ 62 from Nat.pow_le_pow_right (by decide) h)
  exact ⟨h1, by rw [← hv1]; exact two_ge t1, h2⟩
theorem C_bound {M c : Nat} (h : bitN M + c ≤ 62) : M * 2 ^ c < 4611686018427387904 := by
  have h5 := Nat.mul_lt_mul_of_pos_right (bitN_lt M) (Nat.two_pow_pos c)
  rw [← Nat.pow_add] at h5
  exact Nat.lt_of_lt_of_le h5 (show 2 ^ (bitN M + c) ≤ 2 ^ 62 from Nat.pow_le_pow_right (by decide) h)
theorem M_of_zero {M c : Nat} (h : M * 2 ^ c = 0) : M = 0 := by
  rcases Nat.mul_eq_zero.1 h with h5 | h5
  · exact h5
  · exact absurd h5 (Nat.ne_of_gt (Nat.two_pow_pos c))

set_option maxRecDepth 100000 in
set_option maxHeartbeats 8000000 in
theorem walk (b0 : Bool) (a0 : Option Addr) (len0 cap0 : Nat) (zs0 : List Int) (e0 mq kq : Int) (w : World) (w0 : IsRow .u64 w a0 len0 cap0 zs0) (we : (Lit.int .i64 e0).wf = true) (wm : (Lit.int .i64 mq).wf = true) (wk : (Lit.int .i64 kq).wf = true) (hT : Tab w) :
    Calls Tryd.prog 5 #[.agg #[.bool b0, .slice a0 len0 cap0, .int .i64 e0], .agg #[.int .i64 mq, .int .i64 kq]] w fun e w' => e = .returned (.bool true) ∧ Below w.heap.size w w' := by
  obtain ⟨l, hl, dl, RL, hl64⟩ := w0.nums
  have h2 : -9223372036854775808 ≤ e0 ∧ e0 ≤ 9223372036854775807 := by simpa [Lit.wf, IntKind.min, IntKind.max, IntKind.bits, IntKind.signed] using we
  have h3 : -9223372036854775808 ≤ mq ∧ mq ≤ 9223372036854775807 := by simpa [Lit.wf, IntKind.min, IntKind.max, IntKind.bits, IntKind.signed] using wm
  have h4 : -9223372036854775808 ≤ kq ∧ kq ≤ 9223372036854775807 := by simpa [Lit.wf, IntKind.min, IntKind.max, IntKind.bits, IntKind.signed] using wk
  clear w0 we wm wk
  have P := blk_a1 (w := w) (T := 24) (c := #[.bool b0, .slice a0 len0 cap0, .int .i64 e0]) (o := .cells #[.int .i64 mq, .int .i64 kq] 26 (0, 0))
  have Q := blk_a2 (w := w) (T := 26) (o := .cells #[.bool b0, .slice a0 len0 cap0, .int .i64 e0] 24 (0, 0)) (c := #[.int .i64 mq, .int .i64 kq])
  have B0 : Below w.heap.size w ((w.alloc (.cells #[.bool b0, .slice a0 len0 cap0, .int .i64 e0] 24 (0, 0))).alloc (.cells #[.int .i64 mq, .int .i64 kq] 26 (0, 0))) := below_2
  have T0 := hT.below B0
  by_cases hbig : 20 < len0
  · clear RL dl hl
    have dec0 : decide (20 < (len0 : Int)) = true := decide_eq_true (by omega)
    go_enter Tryd.func5, Tryd.ntmps5
    go_upto_region 1 with fail
    generalize hwx : (w.alloc (.cells #[.bool b0, .slice a0 len0 cap0, .int .i64 e0] 24 (0, 0))).alloc (.cells #[.int .i64 mq, .int .i64 kq] 26 (0, 0)) = w0 at *
    clear hwx
    obtain ⟨cP0, cP1, cP2, fP0, fP1, fP2, sP⟩ := P.open3
    obtain ⟨cQ0, cQ1, fQ0, fQ1, sQ⟩ := Q.open2
    go_wp2_with
    (first
      | (go_at_call 7; (with_reducible refine (alive11_any T0).mono ?_); rintro e w1 ⟨rfl, hb1⟩; have B1 := B0.trans (hb1.mono B0.size); have T1 := T0.below hb1; have P1 := P.below hb1; have Q1 := Q.below hb1; clear T0 P Q; obtain ⟨cP0_1, cP1_1, cP2_1, fP0_1, fP1_1, fP2_1, sP_1⟩ := P1.open3; obtain ⟨cQ0_1, cQ1_1, fQ0_1, fQ1_1, sQ_1⟩ := Q1.open2)
      | fail)
    all_goals
      go_ret
      exact ⟨rfl, by assumption⟩
  have dec0 : decide (20 < (len0 : Int)) = false := decide_eq_false (by omega)
  have bA := val_bits dl (show l.length ≤ 20 by omega)
  have RA := RL.numl dl (by omega)
  have z0 := RA.below B0
  clear dl RL hl RA
  generalize val BB l = A at *
  obtain ⟨⟨n', M, E⟩, ed⟩ : ∃ d, bareD ⟨b0, A, e0⟩ = d := ⟨_, rfl⟩
  have sM : bitN M ≤ 1280 := Nat.le_trans (bareD_bits ed) (by omega)
  have HO := Lib.hid (fun w v (h : Num w v A) => ROf_n h (by omega) h2.1 h2.2 ed)
  obtain ⟨bm, hbm⟩ : ∃ b, bitN M = b := ⟨_, rfl⟩
  have hM0E : M = 0 → n' = false ∧ E = 0 := fun h => by
    have h0 := (bareD_m_zero ⟨b0, A, e0⟩).1 (by rw [ed]; exact h)
    rw [bareD_zero h0] at ed
    injection ed with e1 e2 e3
    exact ⟨e1.symm, e3.symm⟩
  obtain ⟨tp, htp⟩ : ∃ t, (bm : Int) - 1 + E = t := ⟨_, rfl⟩
  -- what exact.Of tells
  have hbase : ∃ (ok : Bool) (PM PK : Int), Hid (∀ (w : World) v, Num w v A → Tab w → Calls Tryd.prog 21 #[.agg #[.bool b0, v, .int .i64 e0]] w (fun e w' => e = .returned (.tuple #[.agg #[.int .i64 PM, .int .i64 PK], .bool ok]) ∧ Below w.heap.size w w')) ∧
      ((fitsE E = false ∧ ok = false) ∨ (fitsE E = true ∧ E < -62 ∧ ok = false) ∨ (fitsE E = true ∧ -62 ≤ E ∧ M = 0 ∧ ok = true) ∨ (fitsE E = true ∧ -62 ≤ E ∧ M ≠ 0 ∧ 62 ≤ tp ∧ ok = false) ∨ (fitsE E = true ∧ -62 ≤ E ∧ M ≠ 0 ∧ tp < 62 ∧ 62 < bm ∧ ok = false) ∨ (fitsE E = true ∧ -62 ≤ E ∧ M ≠ 0 ∧ tp < 62 ∧ bm ≤ 62 ∧ ok = true)) ∧
      Hid (ok = false → PM = 0 ∧ PK = 0) ∧
      Hid (ok = true → ∃ c d C : Nat, max E 0 = (c : Int) ∧ max (-E) 0 = (d : Int) ∧ M * 2 ^ c = C ∧ (if n' then -(C : Int) else (C : Int)) = PM ∧ ((2 ^ d : Nat) : Int) = PK ∧ C < 4611686018427387904 ∧ d ≤ 62 ∧ (1 ≤ d → C % 2 = 1)) := by
    have no : (fitsE E = false ∨ E < -62 ∨ 62 < (bitN M : Int) + max E 0) → Hid (∀ (w : World) v, Num w v A → Tab w → Calls Tryd.prog 21 #[.agg #[.bool b0, v, .int .i64 e0]] w (fun e w' => e = .returned (.tuple #[.agg #[.int .i64 0, .int .i64 0], .bool false]) ∧ Below w.heap.size w w')) := fun h => Lib.hid (fun w v hv hT => EOf_bad hv hT h2.1 h2.2 ed (by omega) h)
    by_cases hf : fitsE E = true
    rotate_left
    · have hf : fitsE E = false := by simpa using hf
      exact ⟨false, 0, 0, no (.inl hf), .inl ⟨hf, rfl⟩, Lib.hid (fun _ => ⟨rfl, rfl⟩), Lib.hid (fun h => by cases h)⟩
    by_cases hE : E < -62
    · exact ⟨false, 0, 0, no (.inr (.inl hE)), .inr (.inl ⟨hf, hE, rfl⟩), Lib.hid (fun _ => ⟨rfl, rfl⟩), Lib.hid (fun h => by cases h)⟩
    have rE : -1073741824 ≤ E ∧ E ≤ 1073741824 := by unfold fitsE at hf; simp at hf; exact hf
    obtain ⟨c, hc⟩ : ∃ c : Nat, max E 0 = (c : Int) := ⟨(max E 0).toNat, by omega⟩
    obtain ⟨d, hd⟩ : ∃ d : Nat, max (-E) 0 = (d : Int) := ⟨(max (-E) 0).toNat, by omega⟩
    by_cases hw : 62 < (bitN M : Int) + max E 0
    · have hMz : M ≠ 0 := fun h => by
        have h5 := (hM0E h).2
        rw [h, h5, bitN_zero] at hw
        exact absurd hw (by decide)
      by_cases ht : 62 ≤ tp
      · exact ⟨false, 0, 0, no (.inr (.inr hw)), .inr (.inr (.inr (.inl ⟨hf, by omega, hMz, ht, rfl⟩))), Lib.hid (fun _ => ⟨rfl, rfl⟩), Lib.hid (fun h => by cases h)⟩
      · exact ⟨false, 0, 0, no (.inr (.inr hw)), .inr (.inr (.inr (.inr (.inl ⟨hf, by omega, hMz, by omega, by omega, rfl⟩)))), Lib.hid (fun _ => ⟨rfl, rfl⟩), Lib.hid (fun h => by cases h)⟩
    have hyes : Hid (∀ (w : World) v, Num w v A → Tab w → Calls Tryd.prog 21 #[.agg #[.bool b0, v, .int .i64 e0]] w (fun e w' => e = .returned (.tuple #[.agg #[.int .i64 (if n' then -((M * 2 ^ c : Nat) : Int) else ((M * 2 ^ c : Nat) : Int)), .int .i64 ((2 ^ d : Nat) : Int)], .bool true]) ∧ Below w.heap.size w w')) := Lib.hid (fun w v hv hT => EOf_ok hv hT h2.1 h2.2 ed hf (by omega) hc hd (by omega) rfl rfl rfl)
    have hend : ∃ c2 d2 C : Nat, max E 0 = (c2 : Int) ∧ max (-E) 0 = (d2 : Int) ∧ M * 2 ^ c2 = C ∧ (if n' then -(C : Int) else (C : Int)) = (if n' then -((M * 2 ^ c : Nat) : Int) else ((M * 2 ^ c : Nat) : Int)) ∧ ((2 ^ d2 : Nat) : Int) = ((2 ^ d : Nat) : Int) ∧ C < 4611686018427387904 ∧ d2 ≤ 62 ∧ (1 ≤ d2 → C % 2 = 1) := by
      refine ⟨c, d, _, hc, hd, rfl, rfl, rfl, ?_, by omega, fun h => ?_⟩
      · exact C_bound (by omega)
      · have hc0 : c = 0 := by omega
        have hMz : M ≠ 0 := fun h5 => by have := (hM0E h5).2; omega
        rw [hc0, Nat.pow_zero, Nat.mul_one]
        exact bareD_oddM ed hMz
    by_cases hMz : M = 0
    · exact ⟨true, _, _, hyes, .inr (.inr (.inl ⟨hf, by omega, hMz, rfl⟩)), Lib.hid (fun h => by cases h), Lib.hid (fun _ => hend)⟩
    · exact ⟨true, _, _, hyes, .inr (.inr (.inr (.inr (.inr ⟨hf, by omega, hMz, by omega, by omega, rfl⟩)))), Lib.hid (fun h => by cases h), Lib.hid (fun _ => hend)⟩
  obtain ⟨ok, PM, PK, HOF, hmay, hno, hok⟩ := hbase
  have hneg : Hid (n' = true → ∀ c C : Nat, M * 2 ^ c = C → C ≠ 0) := Lib.hid (fun h c C hC h0 => by
    rw [← hC] at h0
    rw [(hM0E (M_of_zero h0)).1] at h; cases h)
  have hEr : Hid (ok = true → -1073741824 ≤ E ∧ E ≤ 1073741824) := Lib.hid (fun h => by
    have hf : fitsE E = true := by
      rcases hmay with ⟨-, h5⟩ | ⟨h5, -⟩ | ⟨h5, -⟩ | ⟨h5, -⟩ | ⟨h5, -⟩ | ⟨h5, -⟩
      · rw [h5] at h; cases h
      · exact h5
      · exact h5
      · exact h5
      · exact h5
      · exact h5
    unfold fitsE at hf; simp at hf; exact hf)
  have HTP : Hid (∀ (w : World) v, RdD w v (digs DD M) → fitsE E = true → Calls Tryd.prog 22 #[.agg #[.bool n', v, .int .i64 E]] w (fun e w' => e = .returned (.int .i64 tp) ∧ Below w.heap.size w w')) := Lib.hid (fun w v h hf => by
    have rE : -1073741824 ≤ E ∧ E ≤ 1073741824 := by unfold fitsE at hf; simp at hf; exact hf
    have := RTop_n (neg := n') h (show bitN M ≤ 200000 by omega) (show -4294967296 ≤ E by omega) (show E ≤ 4294967296 by omega)
    unfold topD at this
    dsimp only at this
    rw [hbm, htp] at this
    exact this)
  have HBI := Lib.hid (fun w v (h : RdD w v (digs DD M)) => rbits_n h hbm (by omega))
  have HCMP : Hid (∀ (w : World) v u (C : Nat) (d : Nat), bitN C ≤ 62 → d ≤ 62 → -1073741824 ≤ E ∧ E ≤ 1073741824 → cmpD ⟨n', C, -(d : Int)⟩ ⟨n', M, E⟩ = 0 → RdD w v (digs DD C) → RdD w u (digs DD M) → Calls Tryd.prog 25 #[.agg #[.bool n', v, .int .i64 (-(d : Int))], .agg #[.bool n', u, .int .i64 E]] w (fun e w' => e = .returned (.int .i64 0) ∧ Below w.heap.size w w')) := Lib.hid (fun w v u C d q1 q2 q3 q4 h k => RCmp_n h k (by omega) (by omega) (by omega) (by omega) (by omega) (by omega) q4)
  clear ed hbm htp hM0E sM bA h2 hbig
  go_enter Tryd.func5, Tryd.ntmps5
  go_upto_region 1 with fail
  generalize hwx : (w.alloc (.cells #[.bool b0, .slice a0 len0 cap0, .int .i64 e0] 24 (0, 0))).alloc (.cells #[.int .i64 mq, .int .i64 kq] 26 (0, 0)) = w0 at *
  clear hwx
  obtain ⟨cP0, cP1, cP2, fP0, fP1, fP2, sP⟩ := P.open3
  obtain ⟨cQ0, cQ1, fQ0, fQ1, sQ⟩ := Q.open2
  go_upto_region 7 with
  (first
    | (go_at_call 7; (with_reducible refine (alive11_any T0).mono ?_); rintro e w1 ⟨rfl, hb1⟩; have B1 := B0.trans (hb1.mono B0.size); have z1 := z0.below hb1; have T1 := T0.below hb1; have P1 := P.below hb1; have Q1 := Q.below hb1; clear z0 T0 P Q; obtain ⟨cP0_1, cP1_1, cP2_1, fP0_1, fP1_1, fP2_1, sP_1⟩ := P1.open3; obtain ⟨cQ0_1, cQ1_1, fQ0_1, fQ1_1, sQ_1⟩ := Q1.open2)
    | (go_at_call 8; (with_reducible refine (HO.out _ _ z1).mono ?_); rintro e w2 ⟨vx2, rfl, x2, hb2⟩; have B2 := B1.trans (hb2.mono B1.size); have z2 := z1.below hb2; have T2 := T1.below hb2; have P2 := P1.below hb2; have Q2 := Q1.below hb2; clear z1 T1 P1 Q1; clear cP0_1 cP1_1 cP2_1 fP0_1 fP1_1 fP2_1 sP_1; obtain ⟨cP0_2, cP1_2, cP2_2, fP0_2, fP1_2, fP2_2, sP_2⟩ := P2.open3; clear cQ0_1 cQ1_1 fQ0_1 fQ1_1 sQ_1; obtain ⟨cQ0_2, cQ1_2, fQ0_2, fQ1_2, sQ_2⟩ := Q2.open2; obtain ⟨ax2, kx2, rfl, -⟩ := x2.view; try simp only [List.length_nil] at x2)
    | (go_at_call 21; (with_reducible refine (HOF.out _ _ (z2.below (below_alloc _ _)) (T2.below (below_alloc _ _))).mono ?_); rintro e w3 ⟨rfl, hb3⟩; have hb3' := (below_a hb3); have B3 := B2.trans (hb3'.mono B2.size); have z3 := z2.below hb3'; have T3 := T2.below hb3'; have P3 := P2.below hb3'; have Q3 := Q2.below hb3'; have x3 := x2.below hb3'; clear z2 T2 P2 Q2 x2; have X3 := blk_new.below hb3; clear cP0_2 cP1_2 cP2_2 fP0_2 fP1_2 fP2_2 sP_2; obtain ⟨cP0_3, cP1_3, cP2_3, fP0_3, fP1_3, fP2_3, sP_3⟩ := P3.open3; clear cQ0_2 cQ1_2 fQ0_2 fQ1_2 sQ_2; obtain ⟨cQ0_3, cQ1_3, fQ0_3, fQ1_3, sQ_3⟩ := Q3.open2; obtain ⟨cX0_3, cX1_3, cX2_3, fX0_3, fX1_3, fX2_3, sX_3⟩ := X3.open3)
    | fail)
  have hA := below_alloc w3 (.cells #[.int .i64 PM, .int .i64 PK] 36 (0, 0))
  have Y4 : Blk (w3.alloc (.cells #[.int .i64 PM, .int .i64 PK] 36 (0, 0))) w3.heap.size #[.int .i64 PM, .int .i64 PK] := blk_new
  have Q4 := Q3.below hA; have X4 := X3.below hA; have x4 := x3.below hA; have B4 := B3.trans (hA.mono B3.size)
  clear cP0_3 cP1_3 cP2_3 fP0_3 fP1_3 fP2_3 sP_3 cQ0_3 cQ1_3 fQ0_3 fQ1_3 sQ_3 cX0_3 cX1_3 cX2_3 fX0_3 fX1_3 fX2_3 sX_3 P3 Q3 X3 T3 z3 x3 B3 hA hb3
  clear cP0 cP1 cP2 fP0 fP1 fP2 sP cQ0 cQ1 fQ0 fQ1 sQ
  generalize w3.alloc (.cells #[.int .i64 PM, .int .i64 PK] 36 (0, 0)) = w4 at *
  generalize w3.heap.size = bY at *
  generalize w2.heap.size = bX at *
  go_cut [8] (fun t w' => t = .bool ok ∧ Below w4.heap.size w4 w')
  case first =>
    have Bq := Below.refl w4.heap.size w4
    clear B4 hok hno hneg hEr HO HOF HCMP
    obtain ⟨cX0_4, cX1_4, cX2_4, fX0_4, fX1_4, fX2_4, sX_4⟩ := X4.open3
    rcases hmay with hmay | hmay | hmay | hmay | hmay | hmay
    · as_aux_lemma =>
      obtain ⟨ff, rfl⟩ := hmay
      go_wp2_with
    (first
      | (go_at_call 10; (with_reducible refine (RFits_n).mono ?_); rintro e w5 ⟨rfl, hb5⟩; have B5 := Bq.trans (hb5.mono Bq.size); have x5 := x4.below hb5; have X5 := X4.below hb5; clear x4 X4; obtain ⟨cX0_5, cX1_5, cX2_5, fX0_5, fX1_5, fX2_5, sX_5⟩ := X5.open3)
      | fail)
      all_goals
        go_meet
        exact ⟨rfl, by assumption⟩
    · as_aux_lemma =>
      obtain ⟨ff, q1, rfl⟩ := hmay
      have d1 : decide (-62 ≤ E) = false := decide_eq_false (by omega)
      clear q1
      go_wp2_with
    (first
      | (go_at_call 10; (with_reducible refine (RFits_n).mono ?_); rintro e w5 ⟨rfl, hb5⟩; have B5 := Bq.trans (hb5.mono Bq.size); have x5 := x4.below hb5; have X5 := X4.below hb5; clear x4 X4; obtain ⟨cX0_5, cX1_5, cX2_5, fX0_5, fX1_5, fX2_5, sX_5⟩ := X5.open3)
      | fail)
      all_goals
        go_meet
        exact ⟨rfl, by assumption⟩
    · as_aux_lemma =>
      obtain ⟨ff, q1, q2, rfl⟩ := hmay
      have d1 : decide (-62 ≤ E) = true := decide_eq_true q1
      subst q2
      have dz : (digs DD 0).length = 0 := by rw [digs_zero]; rfl
      clear q1
      go_wp2_with
    (first
      | (go_at_call 10; (with_reducible refine (RFits_n).mono ?_); rintro e w5 ⟨rfl, hb5⟩; have B5 := Bq.trans (hb5.mono Bq.size); have x5 := x4.below hb5; have X5 := X4.below hb5; clear x4 X4; obtain ⟨cX0_5, cX1_5, cX2_5, fX0_5, fX1_5, fX2_5, sX_5⟩ := X5.open3)
      | fail)
      all_goals
        go_meet
        exact ⟨rfl, by assumption⟩
    · as_aux_lemma =>
      obtain ⟨ff, q1, q2, q3, rfl⟩ := hmay
      have d1 : decide (-62 ≤ E) = true := decide_eq_true q1
      have hsn : digs DD M ≠ [] := fun e => q2 ((digs_nil_iff DD_two _).1 e)
      have hsi : ((digs DD M).length : Int) ≠ 0 := by have := List.length_pos_iff.2 hsn; omega
      have hsb : (((digs DD M).length : Int) == 0) = false := beq_false_of_ne hsi
      clear hsn hsi q2 q1
      have d2 : decide (tp < 62) = false := decide_eq_false (by omega)
      clear q3
      go_wp2_with
    (first
      | (go_at_call 10; (with_reducible refine (RFits_n).mono ?_); rintro e w5 ⟨rfl, hb5⟩; have B5 := Bq.trans (hb5.mono Bq.size); have x5 := x4.below hb5; have X5 := X4.below hb5; clear x4 X4; obtain ⟨cX0_5, cX1_5, cX2_5, fX0_5, fX1_5, fX2_5, sX_5⟩ := X5.open3)
      | (go_at_call 22; (with_reducible refine (HTP.out _ _ x5 ff).mono ?_); rintro e w6 ⟨rfl, hb6⟩; have B6 := B5.trans (hb6.mono B5.size); have x6 := x5.below hb6; have X6 := X5.below hb6; clear x5 X5; clear cX0_5 cX1_5 cX2_5 fX0_5 fX1_5 fX2_5 sX_5; obtain ⟨cX0_6, cX1_6, cX2_6, fX0_6, fX1_6, fX2_6, sX_6⟩ := X6.open3)
      | fail)
      all_goals
        go_meet
        exact ⟨rfl, by assumption⟩
    · as_aux_lemma =>
      obtain ⟨ff, q1, q2, q3, q4, rfl⟩ := hmay
      have d1 : decide (-62 ≤ E) = true := decide_eq_true q1
      have hsn : digs DD M ≠ [] := fun e => q2 ((digs_nil_iff DD_two _).1 e)
      have hsi : ((digs DD M).length : Int) ≠ 0 := by have := List.length_pos_iff.2 hsn; omega
      have hsb : (((digs DD M).length : Int) == 0) = false := beq_false_of_ne hsi
      clear hsn hsi q2 q1
      have d2 : decide (tp < 62) = true := decide_eq_true q3
      have d3 : decide ((bm : Int) ≤ 62) = false := decide_eq_false (by omega)
      have d4 : decide (bm ≤ 62) = false := decide_eq_false (by omega)
      clear q3 q4
      go_wp2_with
    (first
      | (go_at_call 10; (with_reducible refine (RFits_n).mono ?_); rintro e w5 ⟨rfl, hb5⟩; have B5 := Bq.trans (hb5.mono Bq.size); have x5 := x4.below hb5; have X5 := X4.below hb5; clear x4 X4; obtain ⟨cX0_5, cX1_5, cX2_5, fX0_5, fX1_5, fX2_5, sX_5⟩ := X5.open3)
      | (go_at_call 22; (with_reducible refine (HTP.out _ _ x5 ff).mono ?_); rintro e w6 ⟨rfl, hb6⟩; have B6 := B5.trans (hb6.mono B5.size); have x6 := x5.below hb6; have X6 := X5.below hb6; clear x5 X5; clear cX0_5 cX1_5 cX2_5 fX0_5 fX1_5 fX2_5 sX_5; obtain ⟨cX0_6, cX1_6, cX2_6, fX0_6, fX1_6, fX2_6, sX_6⟩ := X6.open3)
      | (go_at_call 23; (with_reducible refine (HBI.out _ _ x6).mono ?_); rintro e w7 ⟨rfl, rfl⟩)
      | fail)
      all_goals
        go_meet
        exact ⟨rfl, by assumption⟩
    · as_aux_lemma =>
      obtain ⟨ff, q1, q2, q3, q4, rfl⟩ := hmay
      have d1 : decide (-62 ≤ E) = true := decide_eq_true q1
      have hsn : digs DD M ≠ [] := fun e => q2 ((digs_nil_iff DD_two _).1 e)
      have hsi : ((digs DD M).length : Int) ≠ 0 := by have := List.length_pos_iff.2 hsn; omega
      have hsb : (((digs DD M).length : Int) == 0) = false := beq_false_of_ne hsi
      clear hsn hsi q2 q1
      have d2 : decide (tp < 62) = true := decide_eq_true q3
      have d3 : decide ((bm : Int) ≤ 62) = true := decide_eq_true (by omega)
      have d4 : decide (bm ≤ 62) = true := decide_eq_true q4
      clear q3 q4
      go_wp2_with
    (first
      | (go_at_call 10; (with_reducible refine (RFits_n).mono ?_); rintro e w5 ⟨rfl, hb5⟩; have B5 := Bq.trans (hb5.mono Bq.size); have x5 := x4.below hb5; have X5 := X4.below hb5; clear x4 X4; obtain ⟨cX0_5, cX1_5, cX2_5, fX0_5, fX1_5, fX2_5, sX_5⟩ := X5.open3)
      | (go_at_call 22; (with_reducible refine (HTP.out _ _ x5 ff).mono ?_); rintro e w6 ⟨rfl, hb6⟩; have B6 := B5.trans (hb6.mono B5.size); have x6 := x5.below hb6; have X6 := X5.below hb6; clear x5 X5; clear cX0_5 cX1_5 cX2_5 fX0_5 fX1_5 fX2_5 sX_5; obtain ⟨cX0_6, cX1_6, cX2_6, fX0_6, fX1_6, fX2_6, sX_6⟩ := X6.open3)
      | (go_at_call 23; (with_reducible refine (HBI.out _ _ x6).mono ?_); rintro e w7 ⟨rfl, rfl⟩)
      | fail)
      all_goals
        go_meet
        exact ⟨rfl, by assumption⟩
  case rest =>
    obtain ⟨rfl, hb5⟩ := hcut
    generalize hwx : wc = w5 at *
    clear hwx
    have Q5 := Q4.below hb5; have X5 := X4.below hb5; have Y5 := Y4.below hb5; have x5 := x4.below hb5; have B5 := B4.trans (hb5.mono B4.size)
    clear Q4 X4 Y4 x4 B4 hb5 hmay HTP HBI HO HOF
    obtain ⟨cY0, cY1, fY0, fY1, sY⟩ := Y5.open2
    go_upto_region 8 with fail
    go_cut [63] (fun t w' => t = .bool false ∧ w' = w5)
    case first =>
      cases ok
      · as_aux_lemma =>
        obtain ⟨e1, e2⟩ := hno.out rfl
        subst e1; subst e2
        go_wp2_with fail
        go_meet
        exact ⟨rfl, rfl⟩
      · as_aux_lemma =>
        go_wp2_with fail
        go_meet
        exact ⟨rfl, rfl⟩
    case rest =>
      obtain ⟨rfl, hw⟩ := hcut
      generalize hwy : wc = w6 at *
      clear hwy
      subst hw
      have Q6 := Q5; have X6 := X5; have Y6 := Y5; have x6 := x5; have B6 := B5
      clear Q5 X5 Y5 x5 B5
      go_upto_if 64 with fail
      go_cut [] (fun w' => Below w6.heap.size w6 w')
      case first =>
        cases ok
        · go_wp2_with fail
          go_meet
          exact Below.refl _ _
        · skip
          obtain ⟨c, d, C, hc, hd, hC, hPM, hPK, hC62, hd62, hodd⟩ := hok.out rfl
          replace hC := Lib.hid hC
          replace hPK := Lib.hid hPK
          have hEr := hEr.out rfl
          have hCz := hneg.out
          have HNM := Lib.hid (fun w => num_any (w := w) (n := C) (show C < 18446744073709551616 by omega))
          have bC : bitN C ≤ 62 := bitN_le.2 (show C < 2 ^ 62 from hC62)
          have HCM := Lib.hid (fun w v u => HCMP.out w v u C d bC hd62 hEr (back_cmp (n' := n') hc hd hC.out))
          have hCz : n' = true → C ≠ 0 := fun h => hCz h c C hC.out
          have hPK2 := hPK
          have hPK1 : 1 ≤ PK := by rw [← hPK.out]; exact two_ge d
          have hPKd : 1 < PK → 1 ≤ d := fun h => by
            rcases Nat.eq_zero_or_pos d with h5 | h5
            · rw [← hPK.out, h5] at h
              exact absurd h (by decide)
            · exact h5
          have dK1 : decide (PK < 1) = false := decide_eq_false (by omega)
          have hPMo : 1 < PK → (PM.tmod 2 == 0) = false := fun h => beq_eq_false_iff_ne.2 (by rw [← hPM]; exact odd_no (hodd (hPKd h)))
          have hPMo := Lib.hid hPMo
          clear hok hEr hneg HCMP hno hc hC hodd hPK hPKd hd
          --A
          go_upto_if 70 with fail
          --B
          go_cut [9] (fun t w' => t = L64 C ∧ w' = w6)
          case first =>
            --B4
            have wc1 : IntKind.u64.wrap (C : Int) = (C : Int) := by rw [IntKind.wrap_u64]; omega
            have wc2 : IntKind.i64.wrap (C : Int) = (C : Int) := by rw [IntKind.wrap_i64]; omega
            have wc3 : wrap64 (C : Int) = (C : Int) := by unfold wrap64; omega
            --B5
            cases n'
            · obtain rfl : (C : Int) = PM := hPM
              --B6
              have dn : decide ((C : Int) < 0) = false := decide_eq_false (Int.not_lt.2 (Int.natCast_nonneg C))
              clear hCz hC62 hd62 bC HNM HCM hPK2 hPK1 dK1 hPMo dec0
              --B1
              go_wp2_with fail
              --B2
              go_meet
              exact ⟨rfl, rfl⟩
            · have hPM : -(C : Int) = PM := hPM
              have hz := hCz rfl
              have dn : decide (PM < 0) = true := decide_eq_true (by clear wc1 wc2 wc3; omega)
              have wn : wrap64 (-PM) = (C : Int) := by clear wc1 wc2 wc3; unfold wrap64; omega
              have wn2 : IntKind.i64.wrap (-PM) = (C : Int) := by clear wc1 wc2 wc3 wn; rw [IntKind.wrap_i64]; omega
              clear hPM hz hCz hC62 hd62 bC HNM HCM hPK2 hPK1 dK1 hPMo dec0
              --B3
              (try rw [dn])
              go_wp2_with fail
              go_meet
              exact ⟨rfl, rfl⟩
          case rest =>
            obtain ⟨rfl, hw⟩ := hcut
            generalize hwy : wc = w7 at *
            clear hwy
            obtain rfl : w7 = w6 := hw
            have dn : decide (PM < 0) = n' := by
              cases n'
              · exact decide_eq_false (by rw [← hPM, if_neg (by decide)]; omega)
              · exact decide_eq_true (by rw [← hPM, if_pos rfl]; have := hCz rfl; omega)
            have hPM := Lib.hid hPM
            have hCz := Lib.hid hCz
            --C
            go_upto_region 14 with fail
            --D
            go_cut [10] (fun r wx => ∃ br am km, r = .pointer (some ⟨br, 0, none⟩) ∧ Blk wx br #[.bool n', .slice am (digs DD C).length km, .int .i64 0] ∧ RdD wx (.slice am (digs DD C).length km) (digs DD C) ∧ w7.heap.size ≤ br ∧ Below w7.heap.size w7 wx)
            case first =>
              --F0
              as_aux_lemma =>
              have hD : Below w7.heap.size w7 w7.drew := below_drewN (Below.refl _ _) 1
              have YD : Blk w7.drew _ _ := Y6.below hD
              have hAD : Below w7.heap.size w7 (w7.alloc (.cells #[.bool false, .slice none 0 0, .int .i64 0] 30 (0, 0))).drew := below_drewN (below_alloc w7 _) 1
              have YA : Blk (w7.alloc (.cells #[.bool false, .slice none 0 0, .int .i64 0] 30 (0, 0))).drew _ _ := Y6.below hAD
              have NA : Blk (w7.alloc (.cells #[.bool false, .slice none 0 0, .int .i64 0] 30 (0, 0))).drew w7.heap.size #[.bool false, .slice none 0 0, .int .i64 0] := blk_new.below (below_drewN (Below.refl _ _) 1)
              have hbY := Y6.1
              clear HCM hPMo hPK2 hPM hCz X6 x6 Q6 B6 cY0 cY1 fY0 fY1 sY
              have zD := Lib.hid (And.intro YD.open2.1 YD.open2.2.1); have zA := Lib.hid (And.intro YA.open2.1 YA.open2.2.1)
              go_region_held3 (fun w' => w'.cell? ⟨bY, 0, none⟩ = some (.int .i64 PM) ∧ w'.cell? ⟨bY, 1, none⟩ = some (.int .i64 PK)) (first | exact zD.out | exact zA.out | exact z1.out | exact ⟨(Y1.below (below_alloc _ _)).open2.1, (Y1.below (below_alloc _ _)).open2.2.1⟩ | exact ⟨(Y1.other3 (Nat.ne_of_lt hbY) _ _ _).open2.1, (Y1.other3 (Nat.ne_of_lt hbY) _ _ _).open2.2.1⟩ | exact ⟨((Y1.below (below_alloc _ _)).other3 (Nat.ne_of_lt (Nat.lt_of_lt_of_le hbY hb1.size)) _ _ _).open2.1, ((Y1.below (below_alloc _ _)).other3 (Nat.ne_of_lt (Nat.lt_of_lt_of_le hbY hb1.size)) _ _ _).open2.2.1⟩)
                (first
                  | (go_at_call 24; (with_reducible refine (HNM.out w7.drew).mono ?_); rintro e w1 ⟨v1, rfl, p1, hb1⟩; obtain ⟨ap1, kp1, rfl, -⟩ := p1.view; have Y1 := YD.below hb1; have B1 := hD.trans (hb1.mono hD.size); have z1 := Lib.hid (And.intro Y1.open2.1 Y1.open2.2.1))
                  | (go_at_call 24; (with_reducible refine (HNM.out _).mono ?_); rintro e w1 ⟨v1, rfl, p1, hb1⟩; obtain ⟨ap1, kp1, rfl, -⟩ := p1.view; have Y1 := YA.below hb1; have N1 := NA.below hb1; have B1 := hAD.trans (hb1.mono hAD.size); obtain ⟨cN0_1, cN1_1, cN2_1, fN0_1, fN1_1, fN2_1, sN_1⟩ := N1.open3; have z1 := Lib.hid (And.intro Y1.open2.1 Y1.open2.2.1))
                  | fail)
              · go_wp2_with fail
                go_meet
                exact ⟨w1.heap.size, ap1, kp1, rfl, blk_new, p1.below (below_alloc _ _), B1.size, below_right B1 _⟩
              · go_wp2_with fail
                go_meet
                exact ⟨w7.heap.size, ap1, kp1, rfl, N1.set3 _ _ _, p1.set3 N1 dcells32 _ _ _, Nat.le_refl _, below_set3 B1 (Nat.le_refl _) _ _ _⟩
              --F1
            case rest =>
              obtain ⟨br, am, km, rfl, R8, r8, hbr, hb8⟩ := hcut
              --E
              generalize hwx : wc = w8 at *
              clear hwx
              have Y8 := Y6.below hb8
              clear cY0 cY1 fY0 fY1 sY
              obtain ⟨cY0, cY1, fY0, fY1, sY⟩ := Y8.open2
              go_wp2_with fail
              go_loopw [11] (fun a wr => ∃ j t : Nat, a = .int .i64 ((2 ^ t : Nat) : Int) ∧ j + t = d ∧ Blk wr br #[.bool n', .slice am (digs DD C).length km, .int .i64 (-(j : Int))] ∧ RdD wr (.slice am (digs DD C).length km) (digs DD C) ∧ Below w7.heap.size w7 wr) (fun a _ => (intOf a).toNat)
              case atStart => exact ⟨0, d, by rw [hPK2.out], by omega, R8, r8, hb8⟩
              case round =>
                obtain ⟨j, t, rfl, hjt, R, rr, hB⟩ := hrel
                rename World => wr
                obtain ⟨v, hv⟩ : ∃ v : Int, ((2 ^ t : Nat) : Int) = v := ⟨_, rfl⟩
                obtain ⟨jn, hjn⟩ : ∃ x : Int, -(j : Int) = x := ⟨_, rfl⟩
                rw [hv]
                rw [hjn] at R
                clear cY0 cY1 fY0 fY1 sY R8 r8 Y8 hb8
                by_cases ht : t = 0
                · subst ht
                  obtain rfl : v = 1 := by rw [← hv]; rfl
                  obtain rfl : j = d := by clear hv; omega
                  have hX := X6.below hB; have hY := Y6.below hB; have hx := x6.below hB
                  have HCM2 := Lib.hid (fun w v u => HCM.out w v u)
                  clear hv hjt
                  obtain ⟨cR0, cR1, cR2, fR0, fR1, fR2, sR⟩ := R.open3
                  obtain ⟨cX0, cX1, cX2, fX0, fX1, fX2, sX⟩ := hX.open3
                  obtain ⟨cY0, cY1, fY0, fY1, sY⟩ := hY.open2
                  obtain ⟨pk, hpk⟩ : ∃ b, decide (1 < PK) = b := ⟨_, rfl⟩
                  subst hjn
                  have HCM3 : Hid (∀ (w : World) (v u : Value), RdD w v (digs DD C) → RdD w u (digs DD M) → Calls Tryd.prog 25 #[.agg #[.bool n', v, .int .i64 (-(j : Int))], .agg #[.bool n', u, .int .i64 E]] w (fun e w' => e = .returned (.int .i64 0) ∧ Below w.heap.size w w')) := HCM
                  cases pk
                  · clear hPMo
                    go_wp2_with
          (first
            | (go_at_call 25; (with_reducible refine (HCM3.out _ _ _ rr hx).mono ?_); rintro e w21 ⟨rfl, hb21⟩; have B21 := hB.trans (hb21.mono hB.size); have r21 := rr.below hb21; have x21 := hx.below hb21; have R21 := R.below hb21; have X21 := hX.below hb21; have Y21 := hY.below hb21; clear rr hx R hX hY; obtain ⟨cR0_21, cR1_21, cR2_21, fR0_21, fR1_21, fR2_21, sR_21⟩ := R21.open3; obtain ⟨cX0_21, cX1_21, cX2_21, fX0_21, fX1_21, fX2_21, sX_21⟩ := X21.open3; obtain ⟨cY0_21, cY1_21, fY0_21, fY1_21, sY_21⟩ := Y21.open2)
            | fail)
                    go_meet
                    exact B21
                  · have hPM2 := hPMo.out (of_decide_eq_true hpk)
                    clear hPMo
                    go_wp2_with
          (first
            | (go_at_call 25; (with_reducible refine (HCM3.out _ _ _ rr hx).mono ?_); rintro e w21 ⟨rfl, hb21⟩; have B21 := hB.trans (hb21.mono hB.size); have r21 := rr.below hb21; have x21 := hx.below hb21; have R21 := R.below hb21; have X21 := hX.below hb21; have Y21 := hY.below hb21; clear rr hx R hX hY; obtain ⟨cR0_21, cR1_21, cR2_21, fR0_21, fR1_21, fR2_21, sR_21⟩ := R21.open3; obtain ⟨cX0_21, cX1_21, cX2_21, fX0_21, fX1_21, fX2_21, sX_21⟩ := X21.open3; obtain ⟨cY0_21, cY1_21, fY0_21, fY1_21, sY_21⟩ := Y21.open2)
            | fail)
                    go_meet
                    exact B21
                · obtain ⟨t1, rfl⟩ : ∃ t1, t = t1 + 1 := ⟨t - 1, by omega⟩
                  obtain ⟨v1, hv1⟩ : ∃ v : Int, ((2 ^ t1 : Nat) : Int) = v := ⟨_, rfl⟩
                  obtain ⟨hvv, hv1p, hv62⟩ := half_of (show t1 + 1 ≤ 62 by clear hv hv1; omega) hv hv1
                  have hv1' := Lib.hid hv1
                  clear hv hv1
                  have dv : decide (1 < v) = true := decide_eq_true (by omega)
                  have wv : v.tdiv 2 = v1 := by rw [hvv]; exact Int.mul_tdiv_cancel_left _ (by decide)
                  have wv2 : IntKind.i64.wrap v1 = v1 := by rw [IntKind.wrap_i64]; omega
                  obtain ⟨jm, hjm⟩ : ∃ x : Int, jn - 1 = x := ⟨_, rfl⟩
                  have wj : IntKind.i64.wrap jm = jm := by rw [IntKind.wrap_i64]; omega
                  have wj2 : wrap64 jm = jm := by unfold wrap64; omega
                  have hjm2 := Lib.hid (show -((j + 1 : Nat) : Int) = jm by omega)
                  have hms := Lib.hid (show v1.toNat < v.toNat by omega)
                  have hbw := Lib.hid hB
                  clear hvv hv1p hv62 hB hjn
                  obtain ⟨cR0, cR1, cR2, fR0, fR1, fR2, sR⟩ := R.open3
                  go_wp2_with fail
                  go_round
                  case rel => exact ⟨j + 1, t1, by rw [hv1'.out], by omega, by rw [hjm2.out]; exact R.put2 _, RdD.putP rr R dcells32 _ _, hbw.out.setCell (p := ⟨br, 2, none⟩) hbr _⟩
                  case measure => exact hms.out
      case rest =>
        generalize hwx : wc = w9 at *
        clear hwx
        have Q9 := Q6.below hcut; have B9 := B6.trans (hcut.mono B6.size)
        clear Q6 X6 Y6 x6 B6 hcut hok hno hneg hEr HCMP cY0 cY1 fY0 fY1 sY
        go_upto_region 21 with fail
        obtain ⟨cQ0, cQ1, fQ0, fQ1, sQ⟩ := Q9.open2
        by_cases hk : kq < 1
        · have dk : decide (kq < 1) = true := decide_eq_true hk
          have HL := Lib.hid (fun w => Low_arg (w := w) (M := mq) hk)
          clear hk
          go_wp2_with
  (first
    | (go_at_call 26; (with_reducible refine (HL.out _).mono ?_); rintro e w10 ⟨rfl, hb10⟩; have B10 := B9.trans (hb10.mono B9.size); have Q10 := Q9.below hb10; clear Q9; obtain ⟨cQ0_10, cQ1_10, fQ0_10, fQ1_10, sQ_10⟩ := Q10.open2)
    | fail)
          all_goals
            go_ret
            exact ⟨rfl, below_right (by assumption) _⟩
        have dk : decide (kq < 1) = false := decide_eq_false hk
        obtain ⟨g, hg⟩ : ∃ g, Nat.gcd mq.natAbs kq.toNat = g := ⟨_, rfl⟩
        have hg1 : 1 ≤ g := by rw [← hg]; exact Nat.gcd_pos_of_pos_right _ (by omega)
        obtain ⟨m, em⟩ : ∃ m : Int, mq = m * (g : Int) := by
          have h5 : g ∣ mq.natAbs := by rw [← hg]; exact Nat.gcd_dvd_left _ _
          obtain ⟨t, ht⟩ := Int.natAbs_dvd_natAbs.1 (show (g : Int).natAbs ∣ mq.natAbs by rwa [Int.natAbs_natCast])
          exact ⟨t, by rw [ht, Int.mul_comm]⟩
        obtain ⟨k, ek⟩ : ∃ k : Nat, kq.toNat = k * g := by
          obtain ⟨t, ht⟩ := (show g ∣ kq.toNat by rw [← hg]; exact Nat.gcd_dvd_right _ _)
          exact ⟨t, by rw [ht, Nat.mul_comm]⟩
        have ek2 : kq = (k : Int) * (g : Int) := by rw [← Int.natCast_mul, ← ek]; omega
        have hgcd : Nat.gcd m.natAbs k = 1 := by
          rw [em, ek, Int.natAbs_mul, Int.natAbs_natCast, Nat.gcd_mul_right] at hg
          exact Nat.eq_of_mul_eq_mul_right (show 0 < g by omega) (by rw [hg, Nat.one_mul])
        have hk1 : 1 ≤ k := by
          rcases Nat.eq_zero_or_pos k with h | h
          · rw [h, Nat.zero_mul] at ek; omega
          · exact h
        have hkl : k ≤ kq.toNat := by rw [ek]; exact Nat.le_mul_of_pos_right _ (by omega)
        have hgl : g ≤ kq.toNat := by rw [ek]; exact Nat.le_mul_of_pos_left _ (by omega)
        have hml : m.natAbs ≤ mq.natAbs := by rw [em, Int.natAbs_mul, Int.natAbs_natCast]; exact Nat.le_mul_of_pos_right _ (by omega)
        have hmp : 0 < m → 0 < mq := fun h => by rw [em]; exact Int.mul_pos h (by omega)
        have HL := Lib.hid (fun w => Low_ok (w := w) h3.1 h3.2 (show 1 ≤ kq by omega) h4.2 hg em ek2)
        have f1 : kq.tmod (k : Int) = 0 := by rw [ek2, Int.mul_comm]; exact Int.mul_tmod_left _ _
        have f2 : kq.tdiv (k : Int) = (g : Int) := by rw [ek2]; exact Int.mul_tdiv_cancel_left _ (by omega)
        have f3 : mq.tmod (g : Int) = 0 := by rw [em]; exact Int.mul_tmod_left _ _
        have f4 : mq.tdiv (g : Int) = m := by rw [em]; exact Int.mul_tdiv_cancel _ (by omega)
        have wg : IntKind.i64.wrap (g : Int) = (g : Int) := by rw [IntKind.wrap_i64]; omega
        have wm1 : IntKind.i64.wrap m = m := by rw [IntKind.wrap_i64]; omega
        have dk1 : decide ((k : Int) < 1) = false := decide_eq_false (by omega)
        have dk2 : decide (k < 1) = false := decide_eq_false (by omega)
        have kz : (k : Int) ≠ 0 := by omega
        have gz : (g : Int) ≠ 0 := by omega
        have hgcd := Lib.hid hgcd
        clear hk hg hg1 em ek ek2 hkl hgl hml hmp h3 h4
        go_upto_region 24 with
  (first
    | (go_at_call 26; (with_reducible refine (HL.out _).mono ?_); rintro e w10 ⟨rfl, hb10⟩; have B10 := B9.trans (hb10.mono B9.size); have Q10 := Q9.below hb10; clear Q9; obtain ⟨cQ0_10, cQ1_10, fQ0_10, fQ1_10, sQ_10⟩ := Q10.open2)
    | fail)
        have hA := below_alloc w10 (.cells #[.int .i64 m, .int .i64 (k : Int)] 36 (0, 0))
        have L2 : Blk (w10.alloc (.cells #[.int .i64 m, .int .i64 (k : Int)] 36 (0, 0))) w10.heap.size #[.int .i64 m, .int .i64 (k : Int)] := blk_new
        have Q2 := Q10.below hA
        have B2 := B10.trans (hA.mono B10.size)
        clear hA cQ0 cQ1 fQ0 fQ1 sQ cQ0_10 cQ1_10 fQ0_10 fQ1_10 sQ_10 Q10 B10 hb10 HL
        generalize w10.alloc (.cells #[.int .i64 m, .int .i64 (k : Int)] 36 (0, 0)) = w11 at *
        generalize w10.heap.size = bL at *
        go_cut [164] (fun t w' => t = .bool false ∧ Below w11.heap.size w11 w')
        case first =>
          obtain ⟨cQ0, cQ1, fQ0, fQ1, sQ⟩ := Q2.open2
          obtain ⟨cL0, cL1, fL0, fL1, sL⟩ := L2.open2
          go_quiet (fail)
          go_wp2_with fail
          go_meet
          exact ⟨rfl, below_drewN (Below.refl _ _) _⟩
        case rest =>
          obtain ⟨rfl, hb12⟩ := hcut
          generalize hwx : wc = w12 at *
          clear hwx
          have L12 := L2.below hb12; have B12 := B2.trans (hb12.mono B2.size)
          clear Q2 L2 B2 hb12 f1 f2 f3 f4 wg wm1 dk1 dk2 gz
          go_wp2_with fail
          go_loopw [14] (fun a wr => ∃ t : Nat, a = .int .i64 (t : Int) ∧ 2 ≤ t ∧ t ≤ 200 ∧ Below w12.heap.size w12 wr) (fun a _ => 200 - (intOf a).toNat)
          case atStart => exact ⟨2, rfl, by omega, by omega, Below.refl _ _⟩
          case round =>
            obtain ⟨t, rfl, ht1, ht2, hB⟩ := hrel
            rename World => wr
            have L13 := L12.below hB; have B13 := B12.trans (hB.mono B12.size)
            clear L12
            obtain ⟨cL0, cL1, fL0, fL1, sL⟩ := L13.open2
            by_cases ht : t < 200
            · have d1 : decide ((t : Int) < 200) = true := decide_eq_true (by omega)
              have d2 : decide (t < 200) = true := decide_eq_true ht
              have wt : IntKind.i64.wrap ((t : Int) + 1) = (t : Int) + 1 := by rw [IntKind.wrap_i64]; omega
              have tz : (t : Int) ≠ 0 := by omega
              have hB' := Lib.hid hB
              clear B12 B13 hB
              by_cases hm : m.tmod (t : Int) = 0
              · have hm2 : (m.tmod (t : Int) == 0) = true := by rw [hm]; rfl
                have hk3 : (k : Int).tmod (t : Int) ≠ 0 := gcd_no hgcd.out ht1 hm
                have hk2 : ((k : Int).tmod (t : Int) == 0) = false := beq_eq_false_iff_ne.2 hk3
                have hk4 : decide ((k : Int).tmod (t : Int) = 0) = false := decide_eq_false hk3
                have hk5 : k % t ≠ 0 := fun h => hk3 (by rw [← Int.ofNat_tmod, h]; rfl)
                have hk6 : decide (k % t = 0) = false := decide_eq_false hk5
                have hk7 : (((k % t : Nat) : Int) == 0) = false := beq_eq_false_iff_ne.2 (by omega)
                have hk8 : (k % t == 0) = false := beq_eq_false_iff_ne.2 hk5
                clear hm
                go_wp2_with fail
                go_round
                case rel => exact ⟨t + 1, by go_num, by omega, by omega, hB'.out⟩
                case measure => simp [intOf]; omega
              · have hm2 : (m.tmod (t : Int) == 0) = false := beq_eq_false_iff_ne.2 hm
                clear hm
                go_wp2_with fail
                go_round
                case rel => exact ⟨t + 1, by go_num, by omega, by omega, hB'.out⟩
                case measure => simp [intOf]; omega
            · have d1 : decide ((t : Int) < 200) = false := decide_eq_false (by omega)
              have d2 : decide (t < 200) = false := decide_eq_false ht
              by_cases hm : m = 0
              · have hm2 : (m == 0) = true := by rw [hm]; rfl
                have hk2 : ((k : Int) == 1) = true := by
                  have := hgcd.out
                  rw [hm, Int.natAbs_zero, Nat.gcd_zero_left] at this
                  rw [this]; rfl
                subst hm
                go_wp2_with fail
                go_ret
                exact ⟨rfl, B13⟩
              · have hm2 : (m == 0) = false := beq_eq_false_iff_ne.2 hm
                have hm3 : (m != 0) = true := by rw [bne, hm2]; rfl
                have hm4 : decide (m = 0) = false := decide_eq_false hm
                go_wp2_with fail
                go_ret
                exact ⟨rfl, B13⟩
end Go.Proofs.YtabdmnjdmnnejaaDoor.PETerms
