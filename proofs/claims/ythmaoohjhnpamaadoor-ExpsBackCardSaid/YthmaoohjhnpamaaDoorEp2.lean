/- exps.number's plus and minus by their contracts: what is told by its value. Conditions: the numbers are short. -/
import Derived.Test.YthmaoohjhnpamaaDoorEp1
namespace Go.Proofs.YthmaoohjhnpamaaDoor
set_option maxRecDepth 100000
open Go.RowKit Go.ChangeShapes Go.WideShapes
set_option linter.unusedVariables false

set_option maxHeartbeats 1000000 in
theorem plus_n {w : World} {v u : Value} {neg : Bool} {X Y : Nat} (h : RdN w v (digs BB X)) (h' : Num w u Y) (sX : bitN X ≤ 2560000) :
    Calls Tryd.prog 47 #[.agg #[.bool neg, v], u] w (fun e w' => ∃ nr Z v, e = .returned (.agg #[.bool nr, v]) ∧ sg nr Z = sg neg X + (Y : Int) ∧ RdN w' v (digs BB Z) ∧ Below w.heap.size w w') := by
  have h := h.num sX
  obtain ⟨a, n, k, rfl⟩ := h.slice
  have P := blk_a1 (w := w) (T := 78) (c := #[.bool neg, .slice a n k]) (o := .cells #[.bool false, .slice none 0 0] 78 (0, 0))
  have R := blk_a2 (w := w) (T := 78) (o := .cells #[.bool neg, .slice a n k] 78 (0, 0)) (c := #[.bool false, .slice none 0 0])
  have B0 : Below w.heap.size w ((w.alloc (.cells #[.bool neg, .slice a n k] 78 (0, 0))).alloc (.cells #[.bool false, .slice none 0 0] 78 (0, 0))) := below_2
  have x0 := h.below B0; have y0 := h'.below B0
  clear h h' sX
  cases neg
  · -- the sizes are added
    have hv : sg false (X + Y) = sg false X + (Y : Int) := by unfold sg; simp <;> omega
    have hv := Lib.hid hv
    have HA := Lib.hid (fun w v u (h : Num w v X) (k : Num w u Y) => add_n h k rfl)
    go_enter Tryd.func47, Tryd.ntmps47
    go_upto_region 1 with fail
    generalize (w.alloc (.cells #[.bool false, .slice a n k] 78 (0, 0))).alloc (.cells #[.bool false, .slice none 0 0] 78 (0, 0)) = w0 at *
    obtain ⟨cP0, cP1, fP0, fP1, sP⟩ := P.open2
    obtain ⟨cR0, cR1, fR0, fR1, sR⟩ := R.open2
    go_wp2_with
    (first
      | (go_at_call 26; (with_reducible refine (HA.out _ _ _ x0 y0).mono ?_); rintro e w1 ⟨vz1, rfl, z1, hb1⟩; have B1 := B0.trans (hb1.mono B0.size); have x1 := x0.below hb1; have y1 := y0.below hb1; have P1 := P.below hb1; have R1 := R.below hb1; clear x0 y0 P R; obtain ⟨cP0_1, cP1_1, fP0_1, fP1_1, sP_1⟩ := P1.open2; obtain ⟨cR0_1, cR1_1, fR0_1, fR1_1, sR_1⟩ := R1.open2; obtain ⟨az1, kz1, rfl, -⟩ := z1.view; try simp only [List.length_nil] at z1)
      | fail)
    obtain ⟨y0x, y1x, -⟩ := (R1.set2 (.bool false) (.slice az1 (digs BB (X + Y)).length kz1)).open2
    refine bodyPost_ret (v := .agg #[.bool false, .slice az1 (digs BB (X + Y)).length kz1]) ?_ rfl ?_
    · simp [results, Tryd.results47, go_sem, y0x, y1x]
    · exact ⟨false, (X + Y), _, rfl, hv.out, z1.set2 R1 bcells2 _ _, below_set (below_set B1 (by omega) _) (by omega) _⟩
  · by_cases hle : X ≤ Y
    · obtain ⟨Z, hZ⟩ : ∃ Z, X + Z = Y := ⟨Y - X, by omega⟩
      have hv : sg false Z = sg true X + (Y : Int) := by unfold sg; simp <;> omega
      have hv := Lib.hid hv
      have HS := Lib.hid (fun w v u (h : Num w v Y) (k : Num w u X) => sub_n h k hZ)
      clear hle hZ
      go_enter Tryd.func47, Tryd.ntmps47
      go_upto_region 1 with fail
      generalize (w.alloc (.cells #[.bool true, .slice a n k] 78 (0, 0))).alloc (.cells #[.bool false, .slice none 0 0] 78 (0, 0)) = w0 at *
      obtain ⟨cP0, cP1, fP0, fP1, sP⟩ := P.open2
      obtain ⟨cR0, cR1, fR0, fR1, sR⟩ := R.open2
      go_wp2_with
      (first
        | (go_at_call 28; (with_reducible refine (HS.out _ _ _ y0 x0).mono ?_); rintro e w1 ⟨vz1, rfl, z1, hb1⟩; have B1 := B0.trans (hb1.mono B0.size); have x1 := x0.below hb1; have y1 := y0.below hb1; have P1 := P.below hb1; have R1 := R.below hb1; clear x0 y0 P R; obtain ⟨cP0_1, cP1_1, fP0_1, fP1_1, sP_1⟩ := P1.open2; obtain ⟨cR0_1, cR1_1, fR0_1, fR1_1, sR_1⟩ := R1.open2; obtain ⟨az1, kz1, rfl, -⟩ := z1.view; try simp only [List.length_nil] at z1)
        | fail)
      obtain ⟨y0x, y1x, -⟩ := (R1.set2 (.bool false) (.slice az1 (digs BB Z).length kz1)).open2
      refine bodyPost_ret (v := .agg #[.bool false, .slice az1 (digs BB Z).length kz1]) ?_ rfl ?_
      · simp [results, Tryd.results47, go_sem, y0x, y1x]
      · exact ⟨false, Z, _, rfl, hv.out, z1.set2 R1 bcells2 _ _, below_set (below_set B1 (by omega) _) (by omega) _⟩
    · obtain ⟨Z, hZ⟩ : ∃ Z, Y + Z = X := ⟨X - Y, by omega⟩
      have hv : sg true Z = sg true X + (Y : Int) := by unfold sg; simp <;> omega
      have hv := Lib.hid hv
      have HS := Lib.hid (fun w v u (h : Num w v Y) (k : Num w u X) => sub_under h k (show Y < X by omega))
      have HS2 := Lib.hid (fun w v u (h : Num w v X) (k : Num w u Y) => sub_n h k hZ)
      clear hle hZ
      go_enter Tryd.func47, Tryd.ntmps47
      go_upto_region 1 with fail
      generalize (w.alloc (.cells #[.bool true, .slice a n k] 78 (0, 0))).alloc (.cells #[.bool false, .slice none 0 0] 78 (0, 0)) = w0 at *
      obtain ⟨cP0, cP1, fP0, fP1, sP⟩ := P.open2
      obtain ⟨cR0, cR1, fR0, fR1, sR⟩ := R.open2
      go_wp2_with
      (first
        | (go_at_call 28; (with_reducible refine (HS.out _ _ _ y0 x0).mono ?_); rintro e w1 ⟨vo1, rfl, o1, hb1⟩; have B1 := B0.trans (hb1.mono B0.size); have x1 := x0.below hb1; have y1 := y0.below hb1; have P1 := P.below hb1; have R1 := R.below hb1; clear x0 y0 P R; obtain ⟨cP0_1, cP1_1, fP0_1, fP1_1, sP_1⟩ := P1.open2; obtain ⟨cR0_1, cR1_1, fR0_1, fR1_1, sR_1⟩ := R1.open2)
        | (go_at_call 28; (with_reducible refine (HS2.out _ _ _ x1 y1).mono ?_); rintro e w2 ⟨vz2, rfl, z2, hb2⟩; have B2 := B1.trans (hb2.mono B1.size); have x2 := x1.below hb2; have y2 := y1.below hb2; have P2 := P1.below hb2; have R2 := R1.below hb2; have o2 := o1.below hb2; clear x1 y1 P1 R1 o1; clear cP0_1 cP1_1 fP0_1 fP1_1 sP_1; obtain ⟨cP0_2, cP1_2, fP0_2, fP1_2, sP_2⟩ := P2.open2; clear cR0_1 cR1_1 fR0_1 fR1_1 sR_1; obtain ⟨cR0_2, cR1_2, fR0_2, fR1_2, sR_2⟩ := R2.open2; obtain ⟨az2, kz2, rfl, -⟩ := z2.view; try simp only [List.length_nil] at z2)
        | fail)
      obtain ⟨y0x, y1x, -⟩ := (R2.set2 (.bool true) (.slice az2 (digs BB Z).length kz2)).open2
      refine bodyPost_ret (v := .agg #[.bool true, .slice az2 (digs BB Z).length kz2]) ?_ rfl ?_
      · simp [results, Tryd.results47, go_sem, y0x, y1x]
      · exact ⟨true, Z, _, rfl, hv.out, z2.set2 R2 bcells2 _ _, below_set (below_set B2 (by omega) _) (by omega) _⟩

set_option maxHeartbeats 1000000 in
theorem minus_n {w : World} {v u : Value} {neg : Bool} {X Y : Nat} (h : RdN w v (digs BB X)) (h' : Num w u Y) (sX : bitN X ≤ 2560000) :
    Calls Tryd.prog 49 #[.agg #[.bool neg, v], u] w (fun e w' => ∃ nr Z v, e = .returned (.agg #[.bool nr, v]) ∧ sg nr Z = sg neg X - (Y : Int) ∧ RdN w' v (digs BB Z) ∧ Below w.heap.size w w') := by
  have h := h.num sX
  obtain ⟨a, n, k, rfl⟩ := h.slice
  have P := blk_a1 (w := w) (T := 78) (c := #[.bool neg, .slice a n k]) (o := .cells #[.bool false, .slice none 0 0] 78 (0, 0))
  have R := blk_a2 (w := w) (T := 78) (o := .cells #[.bool neg, .slice a n k] 78 (0, 0)) (c := #[.bool false, .slice none 0 0])
  have B0 : Below w.heap.size w ((w.alloc (.cells #[.bool neg, .slice a n k] 78 (0, 0))).alloc (.cells #[.bool false, .slice none 0 0] 78 (0, 0))) := below_2
  have x0 := h.below B0; have y0 := h'.below B0
  clear h h' sX
  cases neg
  · by_cases hle : Y ≤ X
    · obtain ⟨Z, hZ⟩ : ∃ Z, Y + Z = X := ⟨X - Y, by omega⟩
      have hv : sg false Z = sg false X - (Y : Int) := by unfold sg; simp <;> omega
      have hv := Lib.hid hv
      have HS := Lib.hid (fun w v u (h : Num w v X) (k : Num w u Y) => sub_n h k hZ)
      clear hle hZ
      go_enter Tryd.func49, Tryd.ntmps49
      go_upto_region 1 with fail
      generalize (w.alloc (.cells #[.bool false, .slice a n k] 78 (0, 0))).alloc (.cells #[.bool false, .slice none 0 0] 78 (0, 0)) = w0 at *
      obtain ⟨cP0, cP1, fP0, fP1, sP⟩ := P.open2
      obtain ⟨cR0, cR1, fR0, fR1, sR⟩ := R.open2
      go_wp2_with
      (first
        | (go_at_call 28; (with_reducible refine (HS.out _ _ _ x0 y0).mono ?_); rintro e w1 ⟨vz1, rfl, z1, hb1⟩; have B1 := B0.trans (hb1.mono B0.size); have x1 := x0.below hb1; have y1 := y0.below hb1; have P1 := P.below hb1; have R1 := R.below hb1; clear x0 y0 P R; obtain ⟨cP0_1, cP1_1, fP0_1, fP1_1, sP_1⟩ := P1.open2; obtain ⟨cR0_1, cR1_1, fR0_1, fR1_1, sR_1⟩ := R1.open2; obtain ⟨az1, kz1, rfl, -⟩ := z1.view; try simp only [List.length_nil] at z1)
        | fail)
      obtain ⟨y0x, y1x, -⟩ := (R1.set2 (.bool false) (.slice az1 (digs BB Z).length kz1)).open2
      refine bodyPost_ret (v := .agg #[.bool false, .slice az1 (digs BB Z).length kz1]) ?_ rfl ?_
      · simp [results, Tryd.results49, go_sem, y0x, y1x]
      · exact ⟨false, Z, _, rfl, hv.out, z1.set2 R1 bcells2 _ _, below_set (below_set B1 (by omega) _) (by omega) _⟩
    · obtain ⟨Z, hZ⟩ : ∃ Z, X + Z = Y := ⟨Y - X, by omega⟩
      have hv : sg true Z = sg false X - (Y : Int) := by unfold sg; simp <;> omega
      have hv := Lib.hid hv
      have HS := Lib.hid (fun w v u (h : Num w v X) (k : Num w u Y) => sub_under h k (show X < Y by omega))
      have HS2 := Lib.hid (fun w v u (h : Num w v Y) (k : Num w u X) => sub_n h k hZ)
      clear hle hZ
      go_enter Tryd.func49, Tryd.ntmps49
      go_upto_region 1 with fail
      generalize (w.alloc (.cells #[.bool false, .slice a n k] 78 (0, 0))).alloc (.cells #[.bool false, .slice none 0 0] 78 (0, 0)) = w0 at *
      obtain ⟨cP0, cP1, fP0, fP1, sP⟩ := P.open2
      obtain ⟨cR0, cR1, fR0, fR1, sR⟩ := R.open2
      go_wp2_with
      (first
        | (go_at_call 28; (with_reducible refine (HS.out _ _ _ x0 y0).mono ?_); rintro e w1 ⟨vo1, rfl, o1, hb1⟩; have B1 := B0.trans (hb1.mono B0.size); have x1 := x0.below hb1; have y1 := y0.below hb1; have P1 := P.below hb1; have R1 := R.below hb1; clear x0 y0 P R; obtain ⟨cP0_1, cP1_1, fP0_1, fP1_1, sP_1⟩ := P1.open2; obtain ⟨cR0_1, cR1_1, fR0_1, fR1_1, sR_1⟩ := R1.open2)
        | (go_at_call 28; (with_reducible refine (HS2.out _ _ _ y1 x1).mono ?_); rintro e w2 ⟨vz2, rfl, z2, hb2⟩; have B2 := B1.trans (hb2.mono B1.size); have x2 := x1.below hb2; have y2 := y1.below hb2; have P2 := P1.below hb2; have R2 := R1.below hb2; have o2 := o1.below hb2; clear x1 y1 P1 R1 o1; clear cP0_1 cP1_1 fP0_1 fP1_1 sP_1; obtain ⟨cP0_2, cP1_2, fP0_2, fP1_2, sP_2⟩ := P2.open2; clear cR0_1 cR1_1 fR0_1 fR1_1 sR_1; obtain ⟨cR0_2, cR1_2, fR0_2, fR1_2, sR_2⟩ := R2.open2; obtain ⟨az2, kz2, rfl, -⟩ := z2.view; try simp only [List.length_nil] at z2)
        | fail)
      obtain ⟨y0x, y1x, -⟩ := (R2.set2 (.bool true) (.slice az2 (digs BB Z).length kz2)).open2
      refine bodyPost_ret (v := .agg #[.bool true, .slice az2 (digs BB Z).length kz2]) ?_ rfl ?_
      · simp [results, Tryd.results49, go_sem, y0x, y1x]
      · exact ⟨true, Z, _, rfl, hv.out, z2.set2 R2 bcells2 _ _, below_set (below_set B2 (by omega) _) (by omega) _⟩
  · -- the sizes are added
    have hv : sg true (X + Y) = sg true X - (Y : Int) := by unfold sg; simp <;> omega
    have hv := Lib.hid hv
    have HA := Lib.hid (fun w v u (h : Num w v X) (k : Num w u Y) => add_n h k rfl)
    go_enter Tryd.func49, Tryd.ntmps49
    go_upto_region 1 with fail
    generalize (w.alloc (.cells #[.bool true, .slice a n k] 78 (0, 0))).alloc (.cells #[.bool false, .slice none 0 0] 78 (0, 0)) = w0 at *
    obtain ⟨cP0, cP1, fP0, fP1, sP⟩ := P.open2
    obtain ⟨cR0, cR1, fR0, fR1, sR⟩ := R.open2
    go_wp2_with
    (first
      | (go_at_call 26; (with_reducible refine (HA.out _ _ _ x0 y0).mono ?_); rintro e w1 ⟨vz1, rfl, z1, hb1⟩; have B1 := B0.trans (hb1.mono B0.size); have x1 := x0.below hb1; have y1 := y0.below hb1; have P1 := P.below hb1; have R1 := R.below hb1; clear x0 y0 P R; obtain ⟨cP0_1, cP1_1, fP0_1, fP1_1, sP_1⟩ := P1.open2; obtain ⟨cR0_1, cR1_1, fR0_1, fR1_1, sR_1⟩ := R1.open2; obtain ⟨az1, kz1, rfl, -⟩ := z1.view; try simp only [List.length_nil] at z1)
      | fail)
    obtain ⟨y0x, y1x, -⟩ := (R1.set2 (.bool true) (.slice az1 (digs BB (X + Y)).length kz1)).open2
    refine bodyPost_ret (v := .agg #[.bool true, .slice az1 (digs BB (X + Y)).length kz1]) ?_ rfl ?_
    · simp [results, Tryd.results49, go_sem, y0x, y1x]
    · exact ⟨true, (X + Y), _, rfl, hv.out, z1.set2 R1 bcells2 _ _, below_set (below_set B1 (by omega) _) (by omega) _⟩

end Go.Proofs.YthmaoohjhnpamaaDoor
