/- ratio.power, multiplied by their contracts. Conditions: the numbers are short; math/bits' table stands in its variable. -/
import Derived.Test.YtegpfmfobeigfaaDoorRat1
namespace Go.Proofs.YtegpfmfobeigfaaDoor
set_option maxRecDepth 100000
open Go.RowKit Go.ChangeShapes Go.WideShapes

theorem power_ok {w : World} {v : Value} {neg n' n2 : Bool} {M M' P M2 : Nat} {E E' E2 m : Int} {k : Nat} (h : Num w v M) (hT : Tab w) (h1 : -9223372036854775808 ≤ E) (h2 : E ≤ 9223372036854775807) (e : bareD ⟨neg, M, E⟩ = ⟨n', M', E'⟩) (hm : m.natAbs = k) (hm2 : k ≤ 9223372036854775807)
    (hf : fitsE E' = true) (hb1 : bitN M' * k ≤ 60000) (hb2 : E'.natAbs * k ≤ 60000) (hP : M' ^ k = P) (e2 : bareD ⟨n' && decide (k % 2 = 1), P, E' * k⟩ = ⟨n2, M2, E2⟩) (hf2 : fitsE E2 = true) :
    Calls Tryd.prog 39 #[.agg #[.bool neg, v, .int .i64 E], .int .i64 m] w (fun e w' => ∃ v, e = .returned (.tuple #[.agg #[.bool n2, v, .int .i64 E2], .int .i64 0]) ∧ RdN w' v (digs BB M2) ∧ Below w.heap.size w w') := by
  obtain ⟨a, n, kk, rfl⟩ := h.slice
  have HP := Lib.hid (fun w v (h : Num w v M) (hT : Tab w) => Pow_ok h hT h1 h2 e hm2 hf hb1 hb2 hP e2 hf2)
  clear e e2 hP hb1 hb2
  by_cases hn : m < 0
  · have hmd : decide (m < 0) = true := decide_eq_true hn
    have hmw : -m = (k : Int) := by omega
    have hmw2 : wrap64 (-m) = (k : Int) := by unfold wrap64; omega
    have hkw : wrap64 (k : Int) = (k : Int) := by unfold wrap64; omega
    go_enter Tryd.func39, Tryd.ntmps39
    go_wp2_with
    (first
      | (go_at_call 9; (with_reducible refine (HP.out _ _ (h.below below_2) (hT.below below_2)).mono ?_); rintro e w1 ⟨vz1, rfl, z1, hb1⟩; have B1 := below_2.trans (hb1.mono below_2.size); have m1 := ((h.below below_2)).below hb1; have T1 := ((hT.below below_2)).below hb1; have P1 := ((blk_a1)).below hb1; have R1 := ((blk_a2)).below hb1; obtain ⟨cP0_1, cP1_1, cP2_1, fP0_1, fP1_1, fP2_1, sP_1⟩ := P1.open3; obtain ⟨cR0_1, cR1_1, cR2_1, fR0_1, fR1_1, fR2_1, sR_1⟩ := R1.open3; obtain ⟨az1, kz1, rfl, -⟩ := z1.view; try simp only [List.length_nil] at z1)
      | fail)
    obtain ⟨q0, q1, q2, -⟩ := (R1.set3 (.bool n2) (.slice az1 (digs BB M2).length kz1) (.int .i64 E2)).open3
    refine bodyPost_ret (v := .tuple #[.agg #[.bool n2, .slice az1 (digs BB M2).length kz1, .int .i64 E2], .int .i64 0]) ?_ rfl ?_
    · simp [results, Tryd.results39, go_sem, q0, q1, q2]
    · exact ⟨_, rfl, z1.set3 R1 dcells _ _ _, below_set3 B1 (by omega) _ _ _⟩
  · have hmd : decide (m < 0) = false := decide_eq_false hn
    obtain rfl : m = (k : Int) := by omega
    go_enter Tryd.func39, Tryd.ntmps39
    go_wp2_with
    (first
      | (go_at_call 9; (with_reducible refine (HP.out _ _ (h.below below_2) (hT.below below_2)).mono ?_); rintro e w1 ⟨vz1, rfl, z1, hb1⟩; have B1 := below_2.trans (hb1.mono below_2.size); have m1 := ((h.below below_2)).below hb1; have T1 := ((hT.below below_2)).below hb1; have P1 := ((blk_a1)).below hb1; have R1 := ((blk_a2)).below hb1; obtain ⟨cP0_1, cP1_1, cP2_1, fP0_1, fP1_1, fP2_1, sP_1⟩ := P1.open3; obtain ⟨cR0_1, cR1_1, cR2_1, fR0_1, fR1_1, fR2_1, sR_1⟩ := R1.open3; obtain ⟨az1, kz1, rfl, -⟩ := z1.view; try simp only [List.length_nil] at z1)
      | fail)
    obtain ⟨q0, q1, q2, -⟩ := (R1.set3 (.bool n2) (.slice az1 (digs BB M2).length kz1) (.int .i64 E2)).open3
    refine bodyPost_ret (v := .tuple #[.agg #[.bool n2, .slice az1 (digs BB M2).length kz1, .int .i64 E2], .int .i64 0]) ?_ rfl ?_
    · simp [results, Tryd.results39, go_sem, q0, q1, q2]
    · exact ⟨_, rfl, z1.set3 R1 dcells _ _ _, below_set3 B1 (by omega) _ _ _⟩

theorem one64 (l : List Nat) : ∀ u ∈ l.map L64, u.oneCell' = true := by
  intro u hu
  obtain ⟨x, -, rfl⟩ := List.mem_map.1 hu
  rfl

set_option maxHeartbeats 800000 in
theorem multiplied_n {w : World} {v u : Value} {A B : Nat} (h : RdN w v (digs BB A)) (k : RdN w u (digs BB B)) (sA : bitN A ≤ 65000) (sB : bitN B ≤ 65000) :
    Calls Tryd.prog 62 #[v, u] w (One w (digs BB (A * B))) := by
  obtain ⟨i0, hi, hz0, hz1, hz2⟩ := info_parts infoU
  have hlen : (digs BB B).length ≤ 1016 := digs_short (by omega)
  have hd := dig_digs BB_two B
  have hv := val_digs BB_two B
  generalize digs BB B = l at *
  obtain ⟨a, c, rfl, hac, hc, -, -⟩ := k.view
  obtain ⟨a', n', rfl, -⟩ := h.view
  have HL := Lib.hid k; have HA := Lib.hid h
  clear k h
  go_enter Tryd.func62, Tryd.ntmps62
  go_wp2
  go_loopw [5, 12] (fun x i wr => ∃ k : Nat, i = .int .i64 k ∧ k ≤ l.length ∧ RdN wr x (digs BB (A * val BB (l.take k))) ∧ Below w.heap.size w wr) (fun _ i _ => l.length - (intOf i).toNat)
  case atStart => exact ⟨0, rfl, Nat.zero_le _, by rw [List.take_zero, val_nil, Nat.mul_zero]; exact RdN.nil0 _, Below.refl _ _⟩
  case round =>
    obtain ⟨k, rfl, hk, hX, hB⟩ := hrel
    by_cases hkn : k < l.length
    · obtain ⟨a1, c1, e1, -, -, -, hc2⟩ := (HL.out.below hB).view
      injection e1 with e1 e2 e3; subst e1 e3
      obtain ⟨g, of, rfl, hg, hcell⟩ := hc2 k hkn
      rw [← List.getD_eq_getElem?_getD] at hcell
      clear hc2 e2
      have hx := hd.getD BB_pos k
      have hnx := val_take_succ BB l k
      have hT0 := val_bits (hd.take k) (show (l.take k).length ≤ 1016 by rw [List.length_take]; omega)
      generalize l.getD k 0 = x at *
      have hx64 : bitN x ≤ 64 := bitN_le.2 (by rw [← BB_pow]; exact hx)
      obtain ⟨P, hP⟩ : ∃ P, A * x = P := ⟨_, rfl⟩
      have q1 := bitN_mul_le A x
      have q2 := bitN_mul_le A (val BB (l.take k))
      have sP : bitN P ≤ 2560000 := by rw [← hP]; omega
      have sX : bitN (A * val BB (l.take k)) ≤ 2560000 := by omega
      have hPl : (digs BB P).length ≤ 1100 := digs_short (by rw [← hP]; omega)
      have eS := Lib.hid (show A * val BB (l.take k) + BB ^ k * P = A * val BB (l.take (k + 1)) by
        rw [hnx, Nat.mul_add, ← hP]; congr 1; rw [Nat.mul_left_comm])
      have eP := Lib.hid hP
      have sAx : bitN A + bitN x ≤ 65536 := by omega
      have sA2 : bitN A ≤ 2560000 := by omega
      have hAp := Lib.hid (fun w v (h : RdN w v (List.replicate k 0 ++ digs BB P)) => (show Num w v (BB ^ k * P) from by
        have h2 := h.numl ((Dig.replicate BB_pos k).append (dig_digs BB_two P)) (by rw [List.length_append, List.length_replicate]; omega)
        rw [val_append, val_replicate, List.length_replicate, val_digs BB_two, Nat.zero_add] at h2
        exact h2))
      have hAn := HA.out.below hB
      clear hnx q1 q2 hP
      generalize hTk : A * val BB (l.take k) = S at *
      generalize hTk1 : A * val BB (l.take (k + 1)) = S1 at *
      have HTK1 := Lib.hid hTk1
      clear hTk hTk1
      go_wp2_with (first
        | (go_at_call 76; (with_reducible refine (times_n (hAn.num sA2) hx eP.out sAx).mono ?_); rintro e w2 ⟨vp, rfl, hp, hb2⟩; obtain ⟨ap, kp, rfl, hpk, -⟩ := hp.view; have hX2 := hX.below hb2; have B2 := hB.trans (hb2.mono hB.size))
        | (at_make; go_loud (refine wpList_make_full _ rfl (.tmp 24) (.tmp 24) 22 rfl w2.heap.size 49 i0 (.int .u64 0) 1 Tryd.underlying22 hi hz0 hz1 .i64 .i64 k k k rfl rfl rfl rfl ?_ ?_ ?_ ?_; (any_goals (first | rfl | (rw [hz2]; omega) | (unfold maxLen; omega) | (with_reducible exact Nat.le_refl _))); intro w0 hown0 hgrow0))
        | (at_builtin; go_loud (refine wpList_append_rd (N := fun _ => True) (xs := (madeCells (Value.int .u64 0).cells (k * 1)).toList) (ys := (digs BB P).map L64) (n := k) rfl (.tmp 25) (.tmp 26) 22 rfl w2.heap.size 49 i0 (.int .u64 0) 8 Tryd.underlying22 hi hz0 hz1 hz2 rfl rfl rfl hown0 (hp.below ((Below.refl _ _).grown hgrow0 (Nat.le_refl _) (by simp))) (one64 _) (by rw [List.length_map]; unfold maxLen; omega) (by rw [List.length_map]; omega) (by have := hgrow0.size; omega) ?_; intro v1 w1 own1 hg1; have G1 := ((Below.refl w2.heap.size w2).grown hgrow0 (Nat.le_refl _) (by simp)).grown hg1 hgrow0.size (fun k hk => by simp [Value.ownBlock, Act.eval] at hk; omega); have hX3 := hX2.below G1; rw [made_zero, ← List.map_append] at own1; have hAp3 := hAp.out _ _ (Rd.of_own own1 (fun _ _ => trivial)); have B3 := B2.trans (G1.mono B2.size)))
        | (go_at_call 48; (with_reducible refine (add_n (hX3.num sX) hAp3 eS.out).mono ?_); rintro e w3 ⟨v3, rfl, r3, hb3⟩; have B4 := B3.trans (hb3.mono B3.size))
        | fail)
      go_round
      case rel => exact ⟨k + 1, by go_num, hkn, by rw [HTK1.out]; exact r3, B4⟩
      case measure => simp [intOf]; omega
    · have hkl : k = l.length := by omega
      rw [hkl, List.take_length, hv] at hX
      go_wp2
      go_ret
      exact ⟨_, rfl, hX, hB⟩
end Go.Proofs.YtegpfmfobeigfaaDoor
