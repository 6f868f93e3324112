/- Chapter 31's call by its contract; flags and tries. Conditions: bits are bits; math/bits' table stands in its variable. (Printed by wip/gen/gen_31d.py.) -/
import Derived.Test.YtffaefjkpipjnaaGreatDoorPkA32
namespace Go.Proofs.YtffaefjkpipjnaaGreatDoor
set_option maxRecDepth 100000
open Go.RowKit Go.ChangeShapes Go.WideShapes
set_option linter.unusedVariables false
set_option linter.unusedSimpArgs false
theorem lcall0_n {w : World} {x : Nat} {dir fr pt : Int} (hx : x < 18446744073709551616) (hT : Tab w) (hf : farW pt = false) : Calls Tryz.prog 15 #[.int .i64 0, L64 x, .agg #[.int .i64 dir, .int .i64 fr, .int .i64 pt, .pointer none]] w (fun r w' => ∃ b f st tr er, r = retC b f st tr er ∧ CallR 0 x dir fr pt b f st tr er ∧ Below w.heap.size w w') := by
  have HE := Lib.hid (fun w (hT : Tab w) => exp_call (w := w) (dir := dir) (fr := fr) (pt := pt) hx hT hf)
  clear hx hf
  go_enter Tryz.func15, Tryz.ntmps15
  go_wp2_with
  (first
    | (go_at_call 11; (with_reducible refine (HE.out _ (hT.below below_2)).mono ?_); rintro e w1 ⟨b, f, st, tr, er, rfl, hc, hb1⟩; have B1 := below_2.trans (hb1.mono below_2.size); have T1 := ((hT.below below_2)).below hb1; have P1 := ((blk_a1)).below hb1; have R1 := ((blk_a2)).below hb1; obtain ⟨cP0_1, cP1_1, cP2_1, cP3_1, fP0_1, fP1_1, fP2_1, fP3_1, sP_1⟩ := P1.open4; obtain ⟨cR0_1, cR1_1, cR2_1, fR0_1, fR1_1, fR2_1, sR_1⟩ := R1.open3)
    | fail)
  obtain ⟨z0, z1, z2, -⟩ := (R1.set3 (L64 b) (.int .u8 f) (.int .i64 st)).open3
  refine bodyPost_ret (v := .tuple #[.agg #[L64 b, .int .u8 f, .int .i64 st], .int .i64 tr, .int .i64 er]) (by simp [results, Tryz.results15, go_sem, z0, z1, z2]) rfl ⟨b, f, st, tr, er, rfl, hc, below_set3b B1 (by omega) _ _ _⟩
theorem lcall1_n {w : World} {x : Nat} {dir fr pt : Int} (hx : x < 18446744073709551616) (hT : Tab w) (hf : farW pt = false) : Calls Tryz.prog 15 #[.int .i64 1, L64 x, .agg #[.int .i64 dir, .int .i64 fr, .int .i64 pt, .pointer none]] w (fun r w' => ∃ b f st tr er, r = retC b f st tr er ∧ CallR 1 x dir fr pt b f st tr er ∧ Below w.heap.size w w') := by
  have HE := Lib.hid (fun w (hT : Tab w) => ln_call (w := w) (dir := dir) (fr := fr) (pt := pt) hx hT hf)
  clear hx hf
  go_enter Tryz.func15, Tryz.ntmps15
  go_wp2_with
  (first
    | (go_at_call 12; (with_reducible refine (HE.out _ (hT.below below_2)).mono ?_); rintro e w1 ⟨b, f, st, tr, er, rfl, hc, hb1⟩; have B1 := below_2.trans (hb1.mono below_2.size); have T1 := ((hT.below below_2)).below hb1; have P1 := ((blk_a1)).below hb1; have R1 := ((blk_a2)).below hb1; obtain ⟨cP0_1, cP1_1, cP2_1, cP3_1, fP0_1, fP1_1, fP2_1, fP3_1, sP_1⟩ := P1.open4; obtain ⟨cR0_1, cR1_1, cR2_1, fR0_1, fR1_1, fR2_1, sR_1⟩ := R1.open3)
    | fail)
  obtain ⟨z0, z1, z2, -⟩ := (R1.set3 (L64 b) (.int .u8 f) (.int .i64 st)).open3
  refine bodyPost_ret (v := .tuple #[.agg #[L64 b, .int .u8 f, .int .i64 st], .int .i64 tr, .int .i64 er]) (by simp [results, Tryz.results15, go_sem, z0, z1, z2]) rfl ⟨b, f, st, tr, er, rfl, hc, below_set3b B1 (by omega) _ _ _⟩
theorem lcall2_n {w : World} {x : Nat} {dir fr pt : Int} (hx : x < 18446744073709551616) (hT : Tab w) (hf : farW pt = false) : Calls Tryz.prog 15 #[.int .i64 2, L64 x, .agg #[.int .i64 dir, .int .i64 fr, .int .i64 pt, .pointer none]] w (fun r w' => ∃ b f st tr er, r = retC b f st tr er ∧ CallR 2 x dir fr pt b f st tr er ∧ Below w.heap.size w w') := by
  have HE := Lib.hid (fun w (hT : Tab w) => ex1_call (w := w) (dir := dir) (fr := fr) (pt := pt) hx hT hf)
  clear hx hf
  go_enter Tryz.func15, Tryz.ntmps15
  go_wp2_with
  (first
    | (go_at_call 37; (with_reducible refine (HE.out _ (hT.below below_2)).mono ?_); rintro e w1 ⟨b, f, st, tr, er, rfl, hc, hb1⟩; have B1 := below_2.trans (hb1.mono below_2.size); have T1 := ((hT.below below_2)).below hb1; have P1 := ((blk_a1)).below hb1; have R1 := ((blk_a2)).below hb1; obtain ⟨cP0_1, cP1_1, cP2_1, cP3_1, fP0_1, fP1_1, fP2_1, fP3_1, sP_1⟩ := P1.open4; obtain ⟨cR0_1, cR1_1, cR2_1, fR0_1, fR1_1, fR2_1, sR_1⟩ := R1.open3)
    | fail)
  obtain ⟨z0, z1, z2, -⟩ := (R1.set3 (L64 b) (.int .u8 f) (.int .i64 st)).open3
  refine bodyPost_ret (v := .tuple #[.agg #[L64 b, .int .u8 f, .int .i64 st], .int .i64 tr, .int .i64 er]) (by simp [results, Tryz.results15, go_sem, z0, z1, z2]) rfl ⟨b, f, st, tr, er, rfl, hc, below_set3b B1 (by omega) _ _ _⟩
theorem toB_flags {n : Bool} {M b : Nat} {E dir f : Int} (ho : M % 2 = 1) (hb : isBrk M E = false) (ht : toB n M E false dir = (b, f)) : f = 1 ∨ f = 3 ∨ f = 5 := by
  have h0 := toB_inexact ho hb ht
  unfold toB at ht
  split at ht
  · injection ht with _ h; exact .inr (.inr h.symm)
  · split at ht
    · injection ht with _ h; exact .inr (.inl h.symm)
    · injection ht with _ h
      unfold flagB at h
      split at h
      · exact .inr (.inr h.symm)
      · split at h
        · split at h
          · exact .inr (.inl h.symm)
          · exact .inl h.symm
        · exact absurd h.symm h0
theorem run_flags {Iv : Nat → Dn → Dn → Prop} {neg : Bool} {dir f st tr : Int} {l : List Nat} {b : Nat} (hl : l.length ≤ 9) (h : RunR Iv neg dir l b f st tr) : (f = 1 ∨ f = 3 ∨ f = 5) ∧ 0 ≤ tr ∧ tr ≤ 9 := by
  rcases h with ⟨-, i, n, lo, hi, h9, hn, ht, -, -, hB, hd⟩ | ⟨-, ht, -, n, lo, hi, ok, b', f', -, hp, hlo, he⟩
  · obtain ⟨-, -, i1, -, z1, -, t1, -⟩ := dec_ends hd
    exact ⟨toB_flags (bareD_oddM (n := lo.neg) (n' := lo.neg) (E := lo.e) (E' := lo.e) hB.q1 z1) i1 t1, by omega, by omega⟩
  · refine ⟨?_, by omega, by omega⟩
    rcases loose_flags hlo with ⟨rfl, hf⟩ | ⟨rfl, rfl, rfl⟩
    · injection he with e1 e2
      subst e2
      exact hf
    · injection he with e1 e2
      exact .inl e2
theorem plan_len {fr pt : Nat} {l : List Nat} (h : PlanR fr pt l) : l.length ≤ 9 := by
  obtain ⟨m, hm, rfl, -⟩ := h
  rw [List.length_append, planP_length, List.length_singleton]
  omega
theorem res31_flags {k x fr pt b : Nat} {dir f st tr : Int} (d0 : 0 ≤ dir) (d3 : dir ≤ 3) (h : Res31 k x fr pt dir b f st tr) : (f = 1 ∨ f = 3 ∨ f = 5) ∧ 0 ≤ tr ∧ tr ≤ 9 := by
  unfold Res31 at h
  split at h
  · rcases h with ⟨hc, hr, -, rfl⟩ | ⟨-, l, hl, hr⟩
    · obtain ⟨b', f', hr', hf⟩ := res_true hc d0 d3
      rw [hr] at hr'
      injection hr' with e1 e2
      injection e2 with e2 e3
      subst e2
      exact ⟨hf, by decide, by decide⟩
    · exact run_flags (plan_len hl) hr
  · split at h
    · obtain ⟨l, hl, hr⟩ := h
      exact run_flags (plan_len hl) hr
    · have g : ¬ (dir < 0 ∨ 3 < dir) := by omega
      rcases h with ⟨-, ⟨n, m, e, -, -, -, ht⟩, -, rfl⟩ | ⟨-, -, hr, -, rfl⟩ | ⟨-, -, hr, -, rfl⟩ | ⟨-, -, -, l, hl, hr⟩
      · have := toB_more n m e dir
        rw [ht] at this
        exact ⟨this, by decide, by decide⟩
      · unfold resB at hr
        rw [if_neg g, if_pos rfl] at hr
        injection hr with e1 e2; injection e2 with e2 e3
        exact ⟨.inr (.inr e2.symm), by decide, by decide⟩
      · unfold resB at hr
        rw [if_neg g, if_neg (by decide), if_neg (by decide), if_neg (by decide), if_pos rfl] at hr
        injection hr with e1 e2; injection e2 with e2 e3
        exact ⟨.inl e2.symm, by decide, by decide⟩
      · exact run_flags (plan_len hl) hr
end Go.Proofs.YtffaefjkpipjnaaGreatDoor

namespace Go.Proofs.YtffaefjkpipjnaaGreatDoor.PXSpec
set_option maxRecDepth 100000
open Go.RowKit Go.ChangeShapes Go.WideShapes
set_option linter.unusedVariables false
set_option linter.unusedSimpArgs false
theorem spec_flags (k x : Nat) : (spec31 k x).2.1 = 0 ∨ (spec31 k x).2.1 = 8 ∨ (spec31 k x).2.1 = 16 := by
  unfold spec31
  repeat' split
  all_goals simp
set_option maxRecDepth 100000 in
set_option maxHeartbeats 4000000 in
theorem walk0 {w : World} {x : Nat} {dir fr pt : Int} (hx : x < 18446744073709551616) (hT : Tab w) : Calls Tryz.prog 4 #[L64 x, .agg #[.int .i64 dir, .int .i64 fr, .int .i64 pt]] w (fun e w' => e = .returned (.bool true) ∧ Below w.heap.size w w') := by
  have HA := Lib.hid (fun w (hT : Tab w) => alive31_any (w := w) hT)
  have HF := Lib.hid (fun w => far24_n (w := w) (dir := dir) (fr := fr) (pt := pt))
  have HR := Lib.hid (fun w => right24_n (w := w) (dir := dir) (fr := fr) (pt := pt))
  have HH := Lib.hid (fun w => how_n (w := w) (dir := dir) (fr := fr) (pt := pt))
  rcases Bool.eq_false_or_eq_true (farW pt) with hf | hf
  · rw [hf] at HF
    go_enter Tryz.func4, Tryz.ntmps4
    go_wp2_with
    (first
      | (go_at_call 6; (with_reducible refine (HA.out _ (hT.below (below_alloc _ _))).mono ?_); rintro e w1 ⟨rfl, hb1⟩; have B1 := (below_alloc _ _).trans (hb1.mono (below_alloc _ _).size); have T1 := ((hT.below (below_alloc _ _))).below hb1; have W1 := ((blk_new)).below hb1; obtain ⟨cW0_1, cW1_1, cW2_1, fW0_1, fW1_1, fW2_1, sW_1⟩ := W1.open3)
      | (go_at_call 14; (with_reducible refine (HF.out _).mono ?_); rintro e w2 ⟨rfl, hb2⟩; have B2 := B1.trans (hb2.mono B1.size); have T2 := T1.below hb2; have W2 := W1.below hb2; clear T1 W1; clear cW0_1 cW1_1 cW2_1 fW0_1 fW1_1 fW2_1 sW_1; obtain ⟨cW0_2, cW1_2, cW2_2, fW0_2, fW1_2, fW2_2, sW_2⟩ := W2.open3)
      | fail)
    go_ret
    exact ⟨rfl, by assumption⟩
  · rw [hf] at HF
    go_enter Tryz.func4, Tryz.ntmps4
    go_upto_region 5 with
    (first
      | (go_at_call 6; (with_reducible refine (HA.out _ (hT.below (below_alloc _ _))).mono ?_); rintro e w1 ⟨rfl, hb1⟩; have B1 := (below_alloc _ _).trans (hb1.mono (below_alloc _ _).size); have T1 := ((hT.below (below_alloc _ _))).below hb1; have W1 := ((blk_new)).below hb1; obtain ⟨cW0_1, cW1_1, cW2_1, fW0_1, fW1_1, fW2_1, sW_1⟩ := W1.open3)
      | (go_at_call 14; (with_reducible refine (HF.out _).mono ?_); rintro e w2 ⟨rfl, hb2⟩; have B2 := B1.trans (hb2.mono B1.size); have T2 := T1.below hb2; have W2 := W1.below hb2; clear T1 W1; clear cW0_1 cW1_1 cW2_1 fW0_1 fW1_1 fW2_1 sW_1; obtain ⟨cW0_2, cW1_2, cW2_2, fW0_2, fW1_2, fW2_2, sW_2⟩ := W2.open3)
      | fail)
    clear cW0_2 cW1_2 cW2_2 fW0_2 fW1_2 fW2_2 sW_2
    go_wp2_with fail
    go_loopw [5] (fun iv wr => ∃ i : Nat, iv = .int .i64 (i : Int) ∧ i ≤ 3 ∧ Tab wr ∧ Blk wr w.heap.size #[.int .i64 dir, .int .i64 fr, .int .i64 pt] ∧ Below w.heap.size w wr) (fun iv _ => 3 - (intOf iv).toNat)
    case atStart => exact ⟨0, rfl, by decide, T2, W2, B2⟩
    case round =>
      obtain ⟨i, rfl, hi, Tr, Wr, Br⟩ := hrel
      rename World => wr
      have hcase : i = 0 ∨ i = 1 ∨ i = 2 ∨ i = 3 := by omega
      have W3 := Wr.open3
      rcases hcase with rfl | rfl | rfl | rfl
      · have HC := Lib.hid (fun w (hT : Tab w) => lcall0_n (w := w) (dir := dir) (fr := fr) (pt := pt) hx hT hf)
        have HS := Lib.hid (fun w => rspec0_n (w := w) hx)
        obtain ⟨⟨sb, sf, si⟩, hsp⟩ : ∃ s, spec31 0 x = s := ⟨_, rfl⟩
        have hsf : sf = 0 ∨ sf = 8 ∨ sf = 16 := by have := spec_flags 0 x; rw [hsp] at this; exact this
        rw [hsp] at HS
        dsimp only at HS
        go_upto_region 9 with (first
          | (go_at_call 16; (with_reducible refine (HH.out _).mono ?_); rintro e wa ⟨rfl, hba⟩; have Ta := Tr.below hba; have Wa := Wr.below hba; have Ba := Br.trans (hba.mono Br.size); obtain ⟨ca0, ca1, ca2, fa0, fa1, fa2, sa⟩ := Wa.open3)
          | (go_at_call 15; (with_reducible refine (HC.out _ Ta).mono ?_); rintro e wb ⟨b, f, st, tr, er, rfl, hcr, hbb⟩; have Tb := Ta.below hbb; have Wb := Wa.below hbb; have Bb := Ba.trans (hbb.mono Ba.size))
          | fail)
        have Rb : Blk (wb.alloc (.cells #[L64 b, .int .u8 f, .int .i64 st] 38 (0, 0))) wb.heap.size #[L64 b, .int .u8 f, .int .i64 st] := blk_new
        have hA := below_alloc wb (.cells #[L64 b, .int .u8 f, .int .i64 st] 38 (0, 0))
        have Tc := Tb.below hA
        have Wc := Wb.below hA
        have Bc := Bb.trans (hA.mono Bb.size)
        generalize wb.alloc (.cells #[L64 b, .int .u8 f, .int .i64 st] 38 (0, 0)) = wc at *
        generalize wb.heap.size = b6 at *
        clear hba hbb hA Wa Wb Ta Tb Ba Bb HC Tr Wr Br
        obtain ⟨cW0, cW1, cW2, fW0, fW1, fW2, sW⟩ := Wc.open3
        obtain ⟨cR0, cR1, cR2, fR0, fR1, fR2, sR⟩ := Rb.open3
        cases hr : rightW dir fr pt
        · rw [hr] at HR
          rcases hcr with ⟨-, rfl, rfl, rfl, rfl, rfl⟩ | ⟨h, -⟩
          · go_wp2_with (first
              | (go_at_call 17; (with_reducible refine (HR.out _).mono ?_); rintro e wd ⟨rfl, hbd⟩; have Wd := Wc.below hbd; have Rd := Rb.below hbd; have Bd := Bc.trans (hbd.mono Bc.size); have Td := Tc.below hbd; obtain ⟨dW0, dW1, dW2, gW0, gW1, gW2, tW⟩ := Wd.open3; obtain ⟨dR0, dR1, dR2, gR0, gR1, gR2, tR⟩ := Rd.open3)
              | fail)
            exact ⟨⟨1, by simp, by decide, Td, Wd, Bd⟩, by decide⟩
          · rw [hr] at h; cases h
        · rw [hr] at HR
          rcases hcr with ⟨h, -⟩ | ⟨-, rfl, hcr⟩
          · rw [hr] at h; cases h
          · obtain ⟨d0, d3, -⟩ := rightW_parts hr
            rw [hsp] at hcr
            dsimp only at hcr
            rcases hcr with ⟨rfl, rfl, rfl, rfl, rfl⟩ | ⟨rfl, hres⟩
            · clear hsp
              rcases hsf with rfl | rfl | rfl
              · go_wp2_with (first
                  | (go_at_call 17; (with_reducible refine (HR.out _).mono ?_); rintro e wd ⟨rfl, hbd⟩; have Wd := Wc.below hbd; have Rd := Rb.below hbd; have Bd := Bc.trans (hbd.mono Bc.size); have Td := Tc.below hbd; obtain ⟨dW0, dW1, dW2, gW0, gW1, gW2, tW⟩ := Wd.open3; obtain ⟨dR0, dR1, dR2, gR0, gR1, gR2, tR⟩ := Rd.open3)
                  | (go_at_call 18; (with_reducible refine (HS.out _).mono ?_); rintro e we ⟨rfl, hbe⟩; have We := (Wd.below hbe).below (below_alloc _ (.cells #[L64 b, .int .i64 0] 50 (0, 0))); have Re := (Rd.below hbe).below (below_alloc _ (.cells #[L64 b, .int .i64 0] 50 (0, 0))); have Be := below_al (Bd.trans (hbe.mono Bd.size)) (.cells #[L64 b, .int .i64 0] 50 (0, 0)); have Te := (Td.below hbe).below (below_alloc _ (.cells #[L64 b, .int .i64 0] 50 (0, 0))); obtain ⟨eR0, eR1, eR2, jR0, jR1, jR2, xR⟩ := Re.open3; obtain ⟨eA0, eA1, -⟩ := (blk_new (w := we) (T := 50) (c := #[L64 b, .int .i64 0])).open2)
                  | fail)
                exact ⟨⟨1, by simp, by decide, Te, We, Be⟩, by decide⟩
              · go_wp2_with (first
                  | (go_at_call 17; (with_reducible refine (HR.out _).mono ?_); rintro e wd ⟨rfl, hbd⟩; have Wd := Wc.below hbd; have Rd := Rb.below hbd; have Bd := Bc.trans (hbd.mono Bc.size); have Td := Tc.below hbd; obtain ⟨dW0, dW1, dW2, gW0, gW1, gW2, tW⟩ := Wd.open3; obtain ⟨dR0, dR1, dR2, gR0, gR1, gR2, tR⟩ := Rd.open3)
                  | (go_at_call 18; (with_reducible refine (HS.out _).mono ?_); rintro e we ⟨rfl, hbe⟩; have We := (Wd.below hbe).below (below_alloc _ (.cells #[L64 b, .int .i64 8] 50 (0, 0))); have Re := (Rd.below hbe).below (below_alloc _ (.cells #[L64 b, .int .i64 8] 50 (0, 0))); have Be := below_al (Bd.trans (hbe.mono Bd.size)) (.cells #[L64 b, .int .i64 8] 50 (0, 0)); have Te := (Td.below hbe).below (below_alloc _ (.cells #[L64 b, .int .i64 8] 50 (0, 0))); obtain ⟨eR0, eR1, eR2, jR0, jR1, jR2, xR⟩ := Re.open3; obtain ⟨eA0, eA1, -⟩ := (blk_new (w := we) (T := 50) (c := #[L64 b, .int .i64 8])).open2)
                  | fail)
                exact ⟨⟨1, by simp, by decide, Te, We, Be⟩, by decide⟩
              · go_wp2_with (first
                  | (go_at_call 17; (with_reducible refine (HR.out _).mono ?_); rintro e wd ⟨rfl, hbd⟩; have Wd := Wc.below hbd; have Rd := Rb.below hbd; have Bd := Bc.trans (hbd.mono Bc.size); have Td := Tc.below hbd; obtain ⟨dW0, dW1, dW2, gW0, gW1, gW2, tW⟩ := Wd.open3; obtain ⟨dR0, dR1, dR2, gR0, gR1, gR2, tR⟩ := Rd.open3)
                  | (go_at_call 18; (with_reducible refine (HS.out _).mono ?_); rintro e we ⟨rfl, hbe⟩; have We := (Wd.below hbe).below (below_alloc _ (.cells #[L64 b, .int .i64 16] 50 (0, 0))); have Re := (Rd.below hbe).below (below_alloc _ (.cells #[L64 b, .int .i64 16] 50 (0, 0))); have Be := below_al (Bd.trans (hbe.mono Bd.size)) (.cells #[L64 b, .int .i64 16] 50 (0, 0)); have Te := (Td.below hbe).below (below_alloc _ (.cells #[L64 b, .int .i64 16] 50 (0, 0))); obtain ⟨eR0, eR1, eR2, jR0, jR1, jR2, xR⟩ := Re.open3; obtain ⟨eA0, eA1, -⟩ := (blk_new (w := we) (T := 50) (c := #[L64 b, .int .i64 16])).open2)
                  | fail)
                exact ⟨⟨1, by simp, by decide, Te, We, Be⟩, by decide⟩
            · obtain ⟨hfl, t0, t9⟩ := res31_flags d0 d3 hres
              have dt : decide (9 < tr) = false := decide_eq_false (by omega)
              have z1 : bits BinOp.and IntKind.u8 1 1 = 1 := by decide
              have z3 : bits BinOp.and IntKind.u8 3 1 = 1 := by decide
              have z5 : bits BinOp.and IntKind.u8 5 1 = 1 := by decide
              clear hsp hres hsf t0 t9
              rcases hfl with rfl | rfl | rfl
              · go_wp2_with (first
                  | (go_at_call 17; (with_reducible refine (HR.out _).mono ?_); rintro e wd ⟨rfl, hbd⟩; have Wd := Wc.below hbd; have Rd := Rb.below hbd; have Bd := Bc.trans (hbd.mono Bc.size); have Td := Tc.below hbd; obtain ⟨dW0, dW1, dW2, gW0, gW1, gW2, tW⟩ := Wd.open3; obtain ⟨dR0, dR1, dR2, gR0, gR1, gR2, tR⟩ := Rd.open3)
                  | (go_at_call 18; (with_reducible refine (HS.out _).mono ?_); rintro e we ⟨rfl, hbe⟩; have We := (Wd.below hbe).below (below_alloc _ (.cells #[L64 sb, .int .i64 sf] 50 (0, 0))); have Re := (Rd.below hbe).below (below_alloc _ (.cells #[L64 sb, .int .i64 sf] 50 (0, 0))); have Be := below_al (Bd.trans (hbe.mono Bd.size)) (.cells #[L64 sb, .int .i64 sf] 50 (0, 0)); have Te := (Td.below hbe).below (below_alloc _ (.cells #[L64 sb, .int .i64 sf] 50 (0, 0))); obtain ⟨eR0, eR1, eR2, jR0, jR1, jR2, xR⟩ := Re.open3; obtain ⟨eA0, eA1, -⟩ := (blk_new (w := we) (T := 50) (c := #[L64 sb, .int .i64 sf])).open2)
                  | fail)
                exact ⟨⟨1, by simp, by decide, Te, We, Be⟩, by decide⟩
              · go_wp2_with (first
                  | (go_at_call 17; (with_reducible refine (HR.out _).mono ?_); rintro e wd ⟨rfl, hbd⟩; have Wd := Wc.below hbd; have Rd := Rb.below hbd; have Bd := Bc.trans (hbd.mono Bc.size); have Td := Tc.below hbd; obtain ⟨dW0, dW1, dW2, gW0, gW1, gW2, tW⟩ := Wd.open3; obtain ⟨dR0, dR1, dR2, gR0, gR1, gR2, tR⟩ := Rd.open3)
                  | (go_at_call 18; (with_reducible refine (HS.out _).mono ?_); rintro e we ⟨rfl, hbe⟩; have We := (Wd.below hbe).below (below_alloc _ (.cells #[L64 sb, .int .i64 sf] 50 (0, 0))); have Re := (Rd.below hbe).below (below_alloc _ (.cells #[L64 sb, .int .i64 sf] 50 (0, 0))); have Be := below_al (Bd.trans (hbe.mono Bd.size)) (.cells #[L64 sb, .int .i64 sf] 50 (0, 0)); have Te := (Td.below hbe).below (below_alloc _ (.cells #[L64 sb, .int .i64 sf] 50 (0, 0))); obtain ⟨eR0, eR1, eR2, jR0, jR1, jR2, xR⟩ := Re.open3; obtain ⟨eA0, eA1, -⟩ := (blk_new (w := we) (T := 50) (c := #[L64 sb, .int .i64 sf])).open2)
                  | fail)
                exact ⟨⟨1, by simp, by decide, Te, We, Be⟩, by decide⟩
              · go_wp2_with (first
                  | (go_at_call 17; (with_reducible refine (HR.out _).mono ?_); rintro e wd ⟨rfl, hbd⟩; have Wd := Wc.below hbd; have Rd := Rb.below hbd; have Bd := Bc.trans (hbd.mono Bc.size); have Td := Tc.below hbd; obtain ⟨dW0, dW1, dW2, gW0, gW1, gW2, tW⟩ := Wd.open3; obtain ⟨dR0, dR1, dR2, gR0, gR1, gR2, tR⟩ := Rd.open3)
                  | (go_at_call 18; (with_reducible refine (HS.out _).mono ?_); rintro e we ⟨rfl, hbe⟩; have We := (Wd.below hbe).below (below_alloc _ (.cells #[L64 sb, .int .i64 sf] 50 (0, 0))); have Re := (Rd.below hbe).below (below_alloc _ (.cells #[L64 sb, .int .i64 sf] 50 (0, 0))); have Be := below_al (Bd.trans (hbe.mono Bd.size)) (.cells #[L64 sb, .int .i64 sf] 50 (0, 0)); have Te := (Td.below hbe).below (below_alloc _ (.cells #[L64 sb, .int .i64 sf] 50 (0, 0))); obtain ⟨eR0, eR1, eR2, jR0, jR1, jR2, xR⟩ := Re.open3; obtain ⟨eA0, eA1, -⟩ := (blk_new (w := we) (T := 50) (c := #[L64 sb, .int .i64 sf])).open2)
                  | fail)
                exact ⟨⟨1, by simp, by decide, Te, We, Be⟩, by decide⟩
      · have HC := Lib.hid (fun w (hT : Tab w) => lcall1_n (w := w) (dir := dir) (fr := fr) (pt := pt) hx hT hf)
        have HS := Lib.hid (fun w => rspec1_n (w := w) hx)
        obtain ⟨⟨sb, sf, si⟩, hsp⟩ : ∃ s, spec31 1 x = s := ⟨_, rfl⟩
        have hsf : sf = 0 ∨ sf = 8 ∨ sf = 16 := by have := spec_flags 1 x; rw [hsp] at this; exact this
        rw [hsp] at HS
        dsimp only at HS
        go_upto_region 9 with (first
          | (go_at_call 16; (with_reducible refine (HH.out _).mono ?_); rintro e wa ⟨rfl, hba⟩; have Ta := Tr.below hba; have Wa := Wr.below hba; have Ba := Br.trans (hba.mono Br.size); obtain ⟨ca0, ca1, ca2, fa0, fa1, fa2, sa⟩ := Wa.open3)
          | (go_at_call 15; (with_reducible refine (HC.out _ Ta).mono ?_); rintro e wb ⟨b, f, st, tr, er, rfl, hcr, hbb⟩; have Tb := Ta.below hbb; have Wb := Wa.below hbb; have Bb := Ba.trans (hbb.mono Ba.size))
          | fail)
        have Rb : Blk (wb.alloc (.cells #[L64 b, .int .u8 f, .int .i64 st] 38 (0, 0))) wb.heap.size #[L64 b, .int .u8 f, .int .i64 st] := blk_new
        have hA := below_alloc wb (.cells #[L64 b, .int .u8 f, .int .i64 st] 38 (0, 0))
        have Tc := Tb.below hA
        have Wc := Wb.below hA
        have Bc := Bb.trans (hA.mono Bb.size)
        generalize wb.alloc (.cells #[L64 b, .int .u8 f, .int .i64 st] 38 (0, 0)) = wc at *
        generalize wb.heap.size = b6 at *
        clear hba hbb hA Wa Wb Ta Tb Ba Bb HC Tr Wr Br
        obtain ⟨cW0, cW1, cW2, fW0, fW1, fW2, sW⟩ := Wc.open3
        obtain ⟨cR0, cR1, cR2, fR0, fR1, fR2, sR⟩ := Rb.open3
        cases hr : rightW dir fr pt
        · rw [hr] at HR
          rcases hcr with ⟨-, rfl, rfl, rfl, rfl, rfl⟩ | ⟨h, -⟩
          · go_wp2_with (first
              | (go_at_call 17; (with_reducible refine (HR.out _).mono ?_); rintro e wd ⟨rfl, hbd⟩; have Wd := Wc.below hbd; have Rd := Rb.below hbd; have Bd := Bc.trans (hbd.mono Bc.size); have Td := Tc.below hbd; obtain ⟨dW0, dW1, dW2, gW0, gW1, gW2, tW⟩ := Wd.open3; obtain ⟨dR0, dR1, dR2, gR0, gR1, gR2, tR⟩ := Rd.open3)
              | fail)
            exact ⟨⟨2, by simp, by decide, Td, Wd, Bd⟩, by decide⟩
          · rw [hr] at h; cases h
        · rw [hr] at HR
          rcases hcr with ⟨h, -⟩ | ⟨-, rfl, hcr⟩
          · rw [hr] at h; cases h
          · obtain ⟨d0, d3, -⟩ := rightW_parts hr
            rw [hsp] at hcr
            dsimp only at hcr
            rcases hcr with ⟨rfl, rfl, rfl, rfl, rfl⟩ | ⟨rfl, hres⟩
            · clear hsp
              rcases hsf with rfl | rfl | rfl
              · go_wp2_with (first
                  | (go_at_call 17; (with_reducible refine (HR.out _).mono ?_); rintro e wd ⟨rfl, hbd⟩; have Wd := Wc.below hbd; have Rd := Rb.below hbd; have Bd := Bc.trans (hbd.mono Bc.size); have Td := Tc.below hbd; obtain ⟨dW0, dW1, dW2, gW0, gW1, gW2, tW⟩ := Wd.open3; obtain ⟨dR0, dR1, dR2, gR0, gR1, gR2, tR⟩ := Rd.open3)
                  | (go_at_call 18; (with_reducible refine (HS.out _).mono ?_); rintro e we ⟨rfl, hbe⟩; have We := (Wd.below hbe).below (below_alloc _ (.cells #[L64 b, .int .i64 0] 50 (0, 0))); have Re := (Rd.below hbe).below (below_alloc _ (.cells #[L64 b, .int .i64 0] 50 (0, 0))); have Be := below_al (Bd.trans (hbe.mono Bd.size)) (.cells #[L64 b, .int .i64 0] 50 (0, 0)); have Te := (Td.below hbe).below (below_alloc _ (.cells #[L64 b, .int .i64 0] 50 (0, 0))); obtain ⟨eR0, eR1, eR2, jR0, jR1, jR2, xR⟩ := Re.open3; obtain ⟨eA0, eA1, -⟩ := (blk_new (w := we) (T := 50) (c := #[L64 b, .int .i64 0])).open2)
                  | fail)
                exact ⟨⟨2, by simp, by decide, Te, We, Be⟩, by decide⟩
              · go_wp2_with (first
                  | (go_at_call 17; (with_reducible refine (HR.out _).mono ?_); rintro e wd ⟨rfl, hbd⟩; have Wd := Wc.below hbd; have Rd := Rb.below hbd; have Bd := Bc.trans (hbd.mono Bc.size); have Td := Tc.below hbd; obtain ⟨dW0, dW1, dW2, gW0, gW1, gW2, tW⟩ := Wd.open3; obtain ⟨dR0, dR1, dR2, gR0, gR1, gR2, tR⟩ := Rd.open3)
                  | (go_at_call 18; (with_reducible refine (HS.out _).mono ?_); rintro e we ⟨rfl, hbe⟩; have We := (Wd.below hbe).below (below_alloc _ (.cells #[L64 b, .int .i64 8] 50 (0, 0))); have Re := (Rd.below hbe).below (below_alloc _ (.cells #[L64 b, .int .i64 8] 50 (0, 0))); have Be := below_al (Bd.trans (hbe.mono Bd.size)) (.cells #[L64 b, .int .i64 8] 50 (0, 0)); have Te := (Td.below hbe).below (below_alloc _ (.cells #[L64 b, .int .i64 8] 50 (0, 0))); obtain ⟨eR0, eR1, eR2, jR0, jR1, jR2, xR⟩ := Re.open3; obtain ⟨eA0, eA1, -⟩ := (blk_new (w := we) (T := 50) (c := #[L64 b, .int .i64 8])).open2)
                  | fail)
                exact ⟨⟨2, by simp, by decide, Te, We, Be⟩, by decide⟩
              · go_wp2_with (first
                  | (go_at_call 17; (with_reducible refine (HR.out _).mono ?_); rintro e wd ⟨rfl, hbd⟩; have Wd := Wc.below hbd; have Rd := Rb.below hbd; have Bd := Bc.trans (hbd.mono Bc.size); have Td := Tc.below hbd; obtain ⟨dW0, dW1, dW2, gW0, gW1, gW2, tW⟩ := Wd.open3; obtain ⟨dR0, dR1, dR2, gR0, gR1, gR2, tR⟩ := Rd.open3)
                  | (go_at_call 18; (with_reducible refine (HS.out _).mono ?_); rintro e we ⟨rfl, hbe⟩; have We := (Wd.below hbe).below (below_alloc _ (.cells #[L64 b, .int .i64 16] 50 (0, 0))); have Re := (Rd.below hbe).below (below_alloc _ (.cells #[L64 b, .int .i64 16] 50 (0, 0))); have Be := below_al (Bd.trans (hbe.mono Bd.size)) (.cells #[L64 b, .int .i64 16] 50 (0, 0)); have Te := (Td.below hbe).below (below_alloc _ (.cells #[L64 b, .int .i64 16] 50 (0, 0))); obtain ⟨eR0, eR1, eR2, jR0, jR1, jR2, xR⟩ := Re.open3; obtain ⟨eA0, eA1, -⟩ := (blk_new (w := we) (T := 50) (c := #[L64 b, .int .i64 16])).open2)
                  | fail)
                exact ⟨⟨2, by simp, by decide, Te, We, Be⟩, by decide⟩
            · obtain ⟨hfl, t0, t9⟩ := res31_flags d0 d3 hres
              have dt : decide (9 < tr) = false := decide_eq_false (by omega)
              have z1 : bits BinOp.and IntKind.u8 1 1 = 1 := by decide
              have z3 : bits BinOp.and IntKind.u8 3 1 = 1 := by decide
              have z5 : bits BinOp.and IntKind.u8 5 1 = 1 := by decide
              clear hsp hres hsf t0 t9
              rcases hfl with rfl | rfl | rfl
              · go_wp2_with (first
                  | (go_at_call 17; (with_reducible refine (HR.out _).mono ?_); rintro e wd ⟨rfl, hbd⟩; have Wd := Wc.below hbd; have Rd := Rb.below hbd; have Bd := Bc.trans (hbd.mono Bc.size); have Td := Tc.below hbd; obtain ⟨dW0, dW1, dW2, gW0, gW1, gW2, tW⟩ := Wd.open3; obtain ⟨dR0, dR1, dR2, gR0, gR1, gR2, tR⟩ := Rd.open3)
                  | (go_at_call 18; (with_reducible refine (HS.out _).mono ?_); rintro e we ⟨rfl, hbe⟩; have We := (Wd.below hbe).below (below_alloc _ (.cells #[L64 sb, .int .i64 sf] 50 (0, 0))); have Re := (Rd.below hbe).below (below_alloc _ (.cells #[L64 sb, .int .i64 sf] 50 (0, 0))); have Be := below_al (Bd.trans (hbe.mono Bd.size)) (.cells #[L64 sb, .int .i64 sf] 50 (0, 0)); have Te := (Td.below hbe).below (below_alloc _ (.cells #[L64 sb, .int .i64 sf] 50 (0, 0))); obtain ⟨eR0, eR1, eR2, jR0, jR1, jR2, xR⟩ := Re.open3; obtain ⟨eA0, eA1, -⟩ := (blk_new (w := we) (T := 50) (c := #[L64 sb, .int .i64 sf])).open2)
                  | fail)
                exact ⟨⟨2, by simp, by decide, Te, We, Be⟩, by decide⟩
              · go_wp2_with (first
                  | (go_at_call 17; (with_reducible refine (HR.out _).mono ?_); rintro e wd ⟨rfl, hbd⟩; have Wd := Wc.below hbd; have Rd := Rb.below hbd; have Bd := Bc.trans (hbd.mono Bc.size); have Td := Tc.below hbd; obtain ⟨dW0, dW1, dW2, gW0, gW1, gW2, tW⟩ := Wd.open3; obtain ⟨dR0, dR1, dR2, gR0, gR1, gR2, tR⟩ := Rd.open3)
                  | (go_at_call 18; (with_reducible refine (HS.out _).mono ?_); rintro e we ⟨rfl, hbe⟩; have We := (Wd.below hbe).below (below_alloc _ (.cells #[L64 sb, .int .i64 sf] 50 (0, 0))); have Re := (Rd.below hbe).below (below_alloc _ (.cells #[L64 sb, .int .i64 sf] 50 (0, 0))); have Be := below_al (Bd.trans (hbe.mono Bd.size)) (.cells #[L64 sb, .int .i64 sf] 50 (0, 0)); have Te := (Td.below hbe).below (below_alloc _ (.cells #[L64 sb, .int .i64 sf] 50 (0, 0))); obtain ⟨eR0, eR1, eR2, jR0, jR1, jR2, xR⟩ := Re.open3; obtain ⟨eA0, eA1, -⟩ := (blk_new (w := we) (T := 50) (c := #[L64 sb, .int .i64 sf])).open2)
                  | fail)
                exact ⟨⟨2, by simp, by decide, Te, We, Be⟩, by decide⟩
              · go_wp2_with (first
                  | (go_at_call 17; (with_reducible refine (HR.out _).mono ?_); rintro e wd ⟨rfl, hbd⟩; have Wd := Wc.below hbd; have Rd := Rb.below hbd; have Bd := Bc.trans (hbd.mono Bc.size); have Td := Tc.below hbd; obtain ⟨dW0, dW1, dW2, gW0, gW1, gW2, tW⟩ := Wd.open3; obtain ⟨dR0, dR1, dR2, gR0, gR1, gR2, tR⟩ := Rd.open3)
                  | (go_at_call 18; (with_reducible refine (HS.out _).mono ?_); rintro e we ⟨rfl, hbe⟩; have We := (Wd.below hbe).below (below_alloc _ (.cells #[L64 sb, .int .i64 sf] 50 (0, 0))); have Re := (Rd.below hbe).below (below_alloc _ (.cells #[L64 sb, .int .i64 sf] 50 (0, 0))); have Be := below_al (Bd.trans (hbe.mono Bd.size)) (.cells #[L64 sb, .int .i64 sf] 50 (0, 0)); have Te := (Td.below hbe).below (below_alloc _ (.cells #[L64 sb, .int .i64 sf] 50 (0, 0))); obtain ⟨eR0, eR1, eR2, jR0, jR1, jR2, xR⟩ := Re.open3; obtain ⟨eA0, eA1, -⟩ := (blk_new (w := we) (T := 50) (c := #[L64 sb, .int .i64 sf])).open2)
                  | fail)
                exact ⟨⟨2, by simp, by decide, Te, We, Be⟩, by decide⟩
      · have HC := Lib.hid (fun w (hT : Tab w) => lcall2_n (w := w) (dir := dir) (fr := fr) (pt := pt) hx hT hf)
        have HS := Lib.hid (fun w => rspec2_n (w := w) hx)
        obtain ⟨⟨sb, sf, si⟩, hsp⟩ : ∃ s, spec31 2 x = s := ⟨_, rfl⟩
        have hsf : sf = 0 ∨ sf = 8 ∨ sf = 16 := by have := spec_flags 2 x; rw [hsp] at this; exact this
        rw [hsp] at HS
        dsimp only at HS
        go_upto_region 9 with (first
          | (go_at_call 16; (with_reducible refine (HH.out _).mono ?_); rintro e wa ⟨rfl, hba⟩; have Ta := Tr.below hba; have Wa := Wr.below hba; have Ba := Br.trans (hba.mono Br.size); obtain ⟨ca0, ca1, ca2, fa0, fa1, fa2, sa⟩ := Wa.open3)
          | (go_at_call 15; (with_reducible refine (HC.out _ Ta).mono ?_); rintro e wb ⟨b, f, st, tr, er, rfl, hcr, hbb⟩; have Tb := Ta.below hbb; have Wb := Wa.below hbb; have Bb := Ba.trans (hbb.mono Ba.size))
          | fail)
        have Rb : Blk (wb.alloc (.cells #[L64 b, .int .u8 f, .int .i64 st] 38 (0, 0))) wb.heap.size #[L64 b, .int .u8 f, .int .i64 st] := blk_new
        have hA := below_alloc wb (.cells #[L64 b, .int .u8 f, .int .i64 st] 38 (0, 0))
        have Tc := Tb.below hA
        have Wc := Wb.below hA
        have Bc := Bb.trans (hA.mono Bb.size)
        generalize wb.alloc (.cells #[L64 b, .int .u8 f, .int .i64 st] 38 (0, 0)) = wc at *
        generalize wb.heap.size = b6 at *
        clear hba hbb hA Wa Wb Ta Tb Ba Bb HC Tr Wr Br
        obtain ⟨cW0, cW1, cW2, fW0, fW1, fW2, sW⟩ := Wc.open3
        obtain ⟨cR0, cR1, cR2, fR0, fR1, fR2, sR⟩ := Rb.open3
        cases hr : rightW dir fr pt
        · rw [hr] at HR
          rcases hcr with ⟨-, rfl, rfl, rfl, rfl, rfl⟩ | ⟨h, -⟩
          · go_wp2_with (first
              | (go_at_call 17; (with_reducible refine (HR.out _).mono ?_); rintro e wd ⟨rfl, hbd⟩; have Wd := Wc.below hbd; have Rd := Rb.below hbd; have Bd := Bc.trans (hbd.mono Bc.size); have Td := Tc.below hbd; obtain ⟨dW0, dW1, dW2, gW0, gW1, gW2, tW⟩ := Wd.open3; obtain ⟨dR0, dR1, dR2, gR0, gR1, gR2, tR⟩ := Rd.open3)
              | fail)
            exact ⟨⟨3, by simp, by decide, Td, Wd, Bd⟩, by decide⟩
          · rw [hr] at h; cases h
        · rw [hr] at HR
          rcases hcr with ⟨h, -⟩ | ⟨-, rfl, hcr⟩
          · rw [hr] at h; cases h
          · obtain ⟨d0, d3, -⟩ := rightW_parts hr
            rw [hsp] at hcr
            dsimp only at hcr
            rcases hcr with ⟨rfl, rfl, rfl, rfl, rfl⟩ | ⟨rfl, hres⟩
            · clear hsp
              rcases hsf with rfl | rfl | rfl
              · go_wp2_with (first
                  | (go_at_call 17; (with_reducible refine (HR.out _).mono ?_); rintro e wd ⟨rfl, hbd⟩; have Wd := Wc.below hbd; have Rd := Rb.below hbd; have Bd := Bc.trans (hbd.mono Bc.size); have Td := Tc.below hbd; obtain ⟨dW0, dW1, dW2, gW0, gW1, gW2, tW⟩ := Wd.open3; obtain ⟨dR0, dR1, dR2, gR0, gR1, gR2, tR⟩ := Rd.open3)
                  | (go_at_call 18; (with_reducible refine (HS.out _).mono ?_); rintro e we ⟨rfl, hbe⟩; have We := (Wd.below hbe).below (below_alloc _ (.cells #[L64 b, .int .i64 0] 50 (0, 0))); have Re := (Rd.below hbe).below (below_alloc _ (.cells #[L64 b, .int .i64 0] 50 (0, 0))); have Be := below_al (Bd.trans (hbe.mono Bd.size)) (.cells #[L64 b, .int .i64 0] 50 (0, 0)); have Te := (Td.below hbe).below (below_alloc _ (.cells #[L64 b, .int .i64 0] 50 (0, 0))); obtain ⟨eR0, eR1, eR2, jR0, jR1, jR2, xR⟩ := Re.open3; obtain ⟨eA0, eA1, -⟩ := (blk_new (w := we) (T := 50) (c := #[L64 b, .int .i64 0])).open2)
                  | fail)
                exact ⟨⟨3, by simp, by decide, Te, We, Be⟩, by decide⟩
              · go_wp2_with (first
                  | (go_at_call 17; (with_reducible refine (HR.out _).mono ?_); rintro e wd ⟨rfl, hbd⟩; have Wd := Wc.below hbd; have Rd := Rb.below hbd; have Bd := Bc.trans (hbd.mono Bc.size); have Td := Tc.below hbd; obtain ⟨dW0, dW1, dW2, gW0, gW1, gW2, tW⟩ := Wd.open3; obtain ⟨dR0, dR1, dR2, gR0, gR1, gR2, tR⟩ := Rd.open3)
                  | (go_at_call 18; (with_reducible refine (HS.out _).mono ?_); rintro e we ⟨rfl, hbe⟩; have We := (Wd.below hbe).below (below_alloc _ (.cells #[L64 b, .int .i64 8] 50 (0, 0))); have Re := (Rd.below hbe).below (below_alloc _ (.cells #[L64 b, .int .i64 8] 50 (0, 0))); have Be := below_al (Bd.trans (hbe.mono Bd.size)) (.cells #[L64 b, .int .i64 8] 50 (0, 0)); have Te := (Td.below hbe).below (below_alloc _ (.cells #[L64 b, .int .i64 8] 50 (0, 0))); obtain ⟨eR0, eR1, eR2, jR0, jR1, jR2, xR⟩ := Re.open3; obtain ⟨eA0, eA1, -⟩ := (blk_new (w := we) (T := 50) (c := #[L64 b, .int .i64 8])).open2)
                  | fail)
                exact ⟨⟨3, by simp, by decide, Te, We, Be⟩, by decide⟩
              · go_wp2_with (first
                  | (go_at_call 17; (with_reducible refine (HR.out _).mono ?_); rintro e wd ⟨rfl, hbd⟩; have Wd := Wc.below hbd; have Rd := Rb.below hbd; have Bd := Bc.trans (hbd.mono Bc.size); have Td := Tc.below hbd; obtain ⟨dW0, dW1, dW2, gW0, gW1, gW2, tW⟩ := Wd.open3; obtain ⟨dR0, dR1, dR2, gR0, gR1, gR2, tR⟩ := Rd.open3)
                  | (go_at_call 18; (with_reducible refine (HS.out _).mono ?_); rintro e we ⟨rfl, hbe⟩; have We := (Wd.below hbe).below (below_alloc _ (.cells #[L64 b, .int .i64 16] 50 (0, 0))); have Re := (Rd.below hbe).below (below_alloc _ (.cells #[L64 b, .int .i64 16] 50 (0, 0))); have Be := below_al (Bd.trans (hbe.mono Bd.size)) (.cells #[L64 b, .int .i64 16] 50 (0, 0)); have Te := (Td.below hbe).below (below_alloc _ (.cells #[L64 b, .int .i64 16] 50 (0, 0))); obtain ⟨eR0, eR1, eR2, jR0, jR1, jR2, xR⟩ := Re.open3; obtain ⟨eA0, eA1, -⟩ := (blk_new (w := we) (T := 50) (c := #[L64 b, .int .i64 16])).open2)
                  | fail)
                exact ⟨⟨3, by simp, by decide, Te, We, Be⟩, by decide⟩
            · obtain ⟨hfl, t0, t9⟩ := res31_flags d0 d3 hres
              have dt : decide (9 < tr) = false := decide_eq_false (by omega)
              have z1 : bits BinOp.and IntKind.u8 1 1 = 1 := by decide
              have z3 : bits BinOp.and IntKind.u8 3 1 = 1 := by decide
              have z5 : bits BinOp.and IntKind.u8 5 1 = 1 := by decide
              clear hsp hres hsf t0 t9
              rcases hfl with rfl | rfl | rfl
              · go_wp2_with (first
                  | (go_at_call 17; (with_reducible refine (HR.out _).mono ?_); rintro e wd ⟨rfl, hbd⟩; have Wd := Wc.below hbd; have Rd := Rb.below hbd; have Bd := Bc.trans (hbd.mono Bc.size); have Td := Tc.below hbd; obtain ⟨dW0, dW1, dW2, gW0, gW1, gW2, tW⟩ := Wd.open3; obtain ⟨dR0, dR1, dR2, gR0, gR1, gR2, tR⟩ := Rd.open3)
                  | (go_at_call 18; (with_reducible refine (HS.out _).mono ?_); rintro e we ⟨rfl, hbe⟩; have We := (Wd.below hbe).below (below_alloc _ (.cells #[L64 sb, .int .i64 sf] 50 (0, 0))); have Re := (Rd.below hbe).below (below_alloc _ (.cells #[L64 sb, .int .i64 sf] 50 (0, 0))); have Be := below_al (Bd.trans (hbe.mono Bd.size)) (.cells #[L64 sb, .int .i64 sf] 50 (0, 0)); have Te := (Td.below hbe).below (below_alloc _ (.cells #[L64 sb, .int .i64 sf] 50 (0, 0))); obtain ⟨eR0, eR1, eR2, jR0, jR1, jR2, xR⟩ := Re.open3; obtain ⟨eA0, eA1, -⟩ := (blk_new (w := we) (T := 50) (c := #[L64 sb, .int .i64 sf])).open2)
                  | fail)
                exact ⟨⟨3, by simp, by decide, Te, We, Be⟩, by decide⟩
              · go_wp2_with (first
                  | (go_at_call 17; (with_reducible refine (HR.out _).mono ?_); rintro e wd ⟨rfl, hbd⟩; have Wd := Wc.below hbd; have Rd := Rb.below hbd; have Bd := Bc.trans (hbd.mono Bc.size); have Td := Tc.below hbd; obtain ⟨dW0, dW1, dW2, gW0, gW1, gW2, tW⟩ := Wd.open3; obtain ⟨dR0, dR1, dR2, gR0, gR1, gR2, tR⟩ := Rd.open3)
                  | (go_at_call 18; (with_reducible refine (HS.out _).mono ?_); rintro e we ⟨rfl, hbe⟩; have We := (Wd.below hbe).below (below_alloc _ (.cells #[L64 sb, .int .i64 sf] 50 (0, 0))); have Re := (Rd.below hbe).below (below_alloc _ (.cells #[L64 sb, .int .i64 sf] 50 (0, 0))); have Be := below_al (Bd.trans (hbe.mono Bd.size)) (.cells #[L64 sb, .int .i64 sf] 50 (0, 0)); have Te := (Td.below hbe).below (below_alloc _ (.cells #[L64 sb, .int .i64 sf] 50 (0, 0))); obtain ⟨eR0, eR1, eR2, jR0, jR1, jR2, xR⟩ := Re.open3; obtain ⟨eA0, eA1, -⟩ := (blk_new (w := we) (T := 50) (c := #[L64 sb, .int .i64 sf])).open2)
                  | fail)
                exact ⟨⟨3, by simp, by decide, Te, We, Be⟩, by decide⟩
              · go_wp2_with (first
                  | (go_at_call 17; (with_reducible refine (HR.out _).mono ?_); rintro e wd ⟨rfl, hbd⟩; have Wd := Wc.below hbd; have Rd := Rb.below hbd; have Bd := Bc.trans (hbd.mono Bc.size); have Td := Tc.below hbd; obtain ⟨dW0, dW1, dW2, gW0, gW1, gW2, tW⟩ := Wd.open3; obtain ⟨dR0, dR1, dR2, gR0, gR1, gR2, tR⟩ := Rd.open3)
                  | (go_at_call 18; (with_reducible refine (HS.out _).mono ?_); rintro e we ⟨rfl, hbe⟩; have We := (Wd.below hbe).below (below_alloc _ (.cells #[L64 sb, .int .i64 sf] 50 (0, 0))); have Re := (Rd.below hbe).below (below_alloc _ (.cells #[L64 sb, .int .i64 sf] 50 (0, 0))); have Be := below_al (Bd.trans (hbe.mono Bd.size)) (.cells #[L64 sb, .int .i64 sf] 50 (0, 0)); have Te := (Td.below hbe).below (below_alloc _ (.cells #[L64 sb, .int .i64 sf] 50 (0, 0))); obtain ⟨eR0, eR1, eR2, jR0, jR1, jR2, xR⟩ := Re.open3; obtain ⟨eA0, eA1, -⟩ := (blk_new (w := we) (T := 50) (c := #[L64 sb, .int .i64 sf])).open2)
                  | fail)
                exact ⟨⟨3, by simp, by decide, Te, We, Be⟩, by decide⟩
      · go_wp2_with fail
        all_goals
          go_ret
          exact ⟨rfl, by assumption⟩
theorem walk (xi dir fr pt : Int) (w : World) (wx : (Lit.int .u64 xi).wf = true) (we : (Lit.int .i64 dir).wf = true) (wj : (Lit.int .i64 fr).wf = true) (wo : (Lit.int .i64 pt).wf = true) (hT : Tab w) :
    Calls Tryz.prog 4 #[.int .u64 xi, .agg #[.int .i64 dir, .int .i64 fr, .int .i64 pt]] w fun e w' => e = .returned (.bool true) ∧ Below w.heap.size w w' := by
  have h1 : 0 ≤ xi ∧ xi ≤ 18446744073709551615 := by simpa [Lit.wf, IntKind.min, IntKind.max, IntKind.bits, IntKind.signed] using wx
  obtain ⟨x, rfl⟩ : ∃ n : Nat, xi = (n : Int) := ⟨xi.toNat, by omega⟩
  exact walk0 (by omega) hT
end Go.Proofs.YtffaefjkpipjnaaGreatDoor.PXSpec
