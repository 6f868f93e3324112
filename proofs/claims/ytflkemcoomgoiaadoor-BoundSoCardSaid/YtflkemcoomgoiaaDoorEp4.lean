/- exps.Exp by its contract. Conditions: the ends may be split; math/bits' table stands in its variable. -/
import Derived.Test.YtflkemcoomgoiaaDoorEp3
import Derived.Test.YtflkemcoomgoiaaDoorSerC
namespace Go.Proofs.YtflkemcoomgoiaaDoor
set_option maxRecDepth 100000
open Go.RowKit Go.ChangeShapes Go.WideShapes
set_option linter.unusedVariables false
set_option linter.unusedSimpArgs false

theorem Within_e {w : World} {v u : Value} {L H : Nat} {s : Int} (h : Num w v L) (k : Num w u H) (hT : Tab w) (hLH : L ≤ H) (sH : bitN H ≤ 300000) (s1 : -1000000 ≤ s) (s2 : s ≤ 1000000) :
    Calls Tryd.prog 33 #[v, u, .int .i64 s, .bool false] w fun e w' => ∃ n1 m1 e1 n2 m2 e2 x y, e = .returned (.agg #[.bool n1, x, .int .i64 e1, .bool n2, y, .int .i64 e2]) ∧ bareD ⟨false, L, -s⟩ = ⟨n1, m1, e1⟩ ∧ bareD ⟨false, H, -s⟩ = ⟨n2, m2, e2⟩ ∧ RdN w' x (digs BB m1) ∧ RdN w' y (digs BB m2) ∧ Below w.heap.size w w' := by
  obtain ⟨d1, q1⟩ : ∃ d, bareD ⟨false, L, -s⟩ = d := ⟨_, rfl⟩
  obtain ⟨d2, q2⟩ : ∃ d, bareD ⟨false, H, -s⟩ = d := ⟨_, rfl⟩
  obtain ⟨n1, m1, e1⟩ := d1
  obtain ⟨n2, m2, e2⟩ := d2
  refine (Within_n (neg := false) h k hT hLH sH s1 s2 (by simpa using q1) (by simpa using q2)).mono ?_
  rintro e w' ⟨x, y, rfl, h1, h2, h3⟩
  exact ⟨n1, m1, e1, n2, m2, e2, x, y, rfl, q1, q2, h1, h2, h3⟩

/-- What exps.Exp tells. -/
def ExpR (w : World) (l h : Int) (s : Nat) (e : Ending) (w' : World) : Prop :=
  ∃ L H, (AtOk 1 3 s L H ∧ AtDet 1 3 s L H) ∧
    ((∃ A B : Nat, ∃ Le He : Nat, ∃ n1 m1 f1 n2 m2 f2, ∃ x y : Value, e = .returned (.tuple #[.agg #[.bool n1, x, .int .i64 f1, .bool n2, y, .int .i64 f2], .int .i64 0]) ∧ splitA l (L + L) (H + H) = (A : Int) ∧ splitB l h (L + L) (H + H) = (B : Int) ∧ B ≤ 2 ^ s ∧ ExOk A B s Le He ∧
        bareD ⟨false, Le, -((s : Int) - splitK l (L + L) (H + H))⟩ = ⟨n1, m1, f1⟩ ∧ bareD ⟨false, He, -((s : Int) - splitK l (L + L) (H + H))⟩ = ⟨n2, m2, f2⟩ ∧ RdN w' x (digs BB m1) ∧ RdN w' y (digs BB m2) ∧ Below w.heap.size w w') ∨
     (((2 ^ s : Nat) : Int) < splitB l h (L + L) (H + H) ∧ e = .returned (.tuple #[.agg #[.bool false, .slice none 0 0, .int .i64 0, .bool false, .slice none 0 0, .int .i64 0], .int .i64 1]) ∧ Below w.heap.size w w'))

set_option maxHeartbeats 8000000 in
theorem Exp_of {w : World} {v1 v2 : Value} {b1 b2 : Bool} {A1 A2 s : Nat} {e1 e2 l h : Int} (k1 : Num w v1 A1) (k2 : Num w v2 A2) (hT : Tab w) (s1 : 8 ≤ s) (s2 : s ≤ 8900) (hlh : l ≤ h) (hl : l.natAbs ≤ 2 ^ (12 + s))
    (HS0 : ∀ (w : World) v u, Num w v A1 → Num w u A2 → Tab w → Calls Tryd.prog 31 #[.agg #[.bool b1, v, .int .i64 e1, .bool b2, u, .int .i64 e2], .int .i64 (s : Int)] w (SplitR w l h s)) :
    Calls Tryd.prog 15 #[.agg #[.bool b1, v1, .int .i64 e1, .bool b2, v2, .int .i64 e2], .int .i64 (s : Int)] w (ExpR w l h s) := by
  obtain ⟨a1, l1, c1, rfl⟩ := k1.slice
  obtain ⟨a2, l2, c2, rfl⟩ := k2.slice
  have HS := Lib.hid HS0
  have P := blk_a1 (w := w) (T := 38) (c := #[.bool b1, .slice a1 l1 c1, .int .i64 e1, .bool b2, .slice a2 l2 c2, .int .i64 e2]) (o := .cells #[.bool false, .slice none 0 0, .int .i64 0, .bool false, .slice none 0 0, .int .i64 0] 38 (0, 0))
  have R := blk_a2 (w := w) (T := 38) (o := .cells #[.bool b1, .slice a1 l1 c1, .int .i64 e1, .bool b2, .slice a2 l2 c2, .int .i64 e2] 38 (0, 0)) (c := #[.bool false, .slice none 0 0, .int .i64 0, .bool false, .slice none 0 0, .int .i64 0])
  have B0 : Below w.heap.size w ((w.alloc (.cells #[.bool b1, .slice a1 l1 c1, .int .i64 e1, .bool b2, .slice a2 l2 c2, .int .i64 e2] 38 (0, 0))).alloc (.cells #[.bool false, .slice none 0 0, .int .i64 0, .bool false, .slice none 0 0, .int .i64 0] 38 (0, 0))) := below_2
  have x0 := k1.below B0; have y0 := k2.below B0; have T0 := hT.below B0
  clear k1 k2 hT HS0
  go_enter Tryd.func15, Tryd.ntmps15
  go_upto_region 1 with fail
  generalize (w.alloc (.cells #[.bool b1, .slice a1 l1 c1, .int .i64 e1, .bool b2, .slice a2 l2 c2, .int .i64 e2] 38 (0, 0))).alloc (.cells #[.bool false, .slice none 0 0, .int .i64 0, .bool false, .slice none 0 0, .int .i64 0] 38 (0, 0)) = w0 at *
  obtain ⟨cP0, cP1, cP2, cP3, cP4, cP5, fP0, fP1, fP2, fP3, fP4, fP5, sP⟩ := P.open6
  go_cut [6, 7, 8, 9] (fun kv av bv ev w' => ∃ L H, (AtOk 1 3 s L H ∧ AtDet 1 3 s L H) ∧ Below w0.heap.size w0 w' ∧
    ((∃ A B : Nat, kv = .int .i64 (splitK l (L + L) (H + H)) ∧ ev = .int .i64 0 ∧ splitA l (L + L) (H + H) = (A : Int) ∧ splitB l h (L + L) (H + H) = (B : Int) ∧ B ≤ 2 ^ s ∧ RdN w' av (digs BB A) ∧ RdN w' bv (digs BB B)) ∨
     (((2 ^ s : Nat) : Int) < splitB l h (L + L) (H + H) ∧ ev = .int .i64 1)))
  case first =>
    go_wp2_with (first
      | (go_at_call 31; (with_reducible refine (HS.out _ _ _ x0 y0 T0).mono ?_); rintro e w1 ⟨L, H, ok, hS⟩; rcases hS with ⟨A, B, va, vb, rfl, hA, hB, hf, ta, tb, hb1⟩ | ⟨hbad, rfl, hb1⟩)
      | fail)
    all_goals (try go_wp2_with fail)
    all_goals go_meet
    · exact ⟨L, H, ok, hb1, .inl ⟨A, B, rfl, rfl, hA, hB, hf, ta, tb⟩⟩
    · exact ⟨L, H, ok, hb1, .inr ⟨hbad, rfl⟩⟩
  case rest =>
    obtain ⟨L, H, ok, hb1, hS⟩ := hcut
    generalize hwx : wc = w1 at *
    clear hwx
    have R1 := R.below hb1; have T1 := T0.below hb1; have B1 := B0.trans (hb1.mono B0.size)
    clear R T0 P x0 y0 cP0 cP1 cP2 cP3 cP4 cP5 fP0 fP1 fP2 fP3 fP4 fP5 sP B0 hb1
    rcases hS with ⟨A, B, rfl, rfl, hA, hB, hf, ta, tb⟩ | ⟨hbad, rfl⟩
    · have hCD : L + L ≤ H + H := by have := ok.1.le; omega
      obtain ⟨h32, hL0⟩ := ln2_pos8 ok.1 s1
      have hqb := split_sizes rfl hCD h32 hL0 hl
      have hAB := splitA_le (C := L + L) (D := H + H) hlh hCD
      rw [hA, hB] at hAB
      have hAB : A ≤ B := by omega
      obtain ⟨kk, hkk⟩ : ∃ x, splitK l (L + L) (H + H) = x := ⟨_, rfl⟩
      have hkn : kk.natAbs ≤ 65536 := by rw [← hkk, splitQ_abs]; exact hqb
      have bB : bitN B ≤ 9000 := Nat.le_trans (bitN_mono hf) (by rw [bitN_two_pow]; clear hf h32; omega)
      have bA : bitN A ≤ 9000 := Nat.le_trans (bitN_mono hAB) bB
      have HE := Lib.hid (fun w v u (h : RdN w v (digs BB A)) (k : RdN w u (digs BB B)) (hT : Tab w) => Exp_ok (h.num (Nat.le_trans bA (by decide))) (k.num (Nat.le_trans bB (by decide))) hT s1 (Nat.le_trans s2 (by decide)) hAB hf)
      have wsk : IntKind.i64.wrap ((s : Int) - kk) = (s : Int) - kk := by clear hf h32 hl; rw [IntKind.wrap_i64]; omega
      have HWI : Hid (∀ (w : World) v u Le He, RdN w v (digs BB Le) → RdN w u (digs BB He) → ExOk A B s Le He → Tab w → Calls Tryd.prog 33 #[v, u, .int .i64 ((s : Int) - kk), .bool false] w fun e w' => ∃ n1 m1 e1 n2 m2 e2 x y, e = .returned (.agg #[.bool n1, x, .int .i64 e1, .bool n2, y, .int .i64 e2]) ∧ bareD ⟨false, Le, -((s : Int) - kk)⟩ = ⟨n1, m1, e1⟩ ∧ bareD ⟨false, He, -((s : Int) - kk)⟩ = ⟨n2, m2, e2⟩ ∧ RdN w' x (digs BB m1) ∧ RdN w' y (digs BB m2) ∧ Below w.heap.size w w') := Lib.hid (fun w v u Le He h1 h2 o hT => by
        obtain ⟨z1, z2⟩ := o.size (Nat.le_trans s2 (by decide))
        exact Within_e (h1.num (Nat.le_trans z1 (by decide))) (h2.num (Nat.le_trans z2 (by decide))) hT o.le (Nat.le_trans z2 (by decide)) (by clear hf h32 hl wsk; omega) (by clear hf h32 hl wsk; omega))
      rw [hkk]
      have hkk := Lib.hid hkk; have hA := Lib.hid hA; have hB := Lib.hid hB; have hf := Lib.hid hf; have ok := Lib.hid ok
      obtain ⟨aa, la, ka, rfl⟩ := (ta.num (Nat.le_trans bA (by decide))).slice
      obtain ⟨ab, lb, kb, rfl⟩ := (tb.num (Nat.le_trans bB (by decide))).slice
      clear hCD h32 hL0 hqb hAB hkn bB bA hl hlh
      --E
      go_upto_region 6 with
      (first
        | (go_at_call 32; (with_reducible refine (HE.out _ _ _ ta tb T1).mono ?_); rintro e w2 ⟨vl, vh, Le, He, rfl, x2, y2, oe, hb2⟩; have B2 := B1.trans (hb2.mono B1.size); have p2 := ta.below hb2; have q2 := tb.below hb2; have T2 := T1.below hb2; have R2 := R1.below hb2; clear ta tb T1 R1; obtain ⟨ax2, kx2, rfl, -⟩ := x2.view; (try simp only [List.length_nil] at x2); obtain ⟨ay2, ky2, rfl, -⟩ := y2.view; try simp only [List.length_nil] at y2)
        | (go_at_call 33; (with_reducible refine (HWI.out _ _ _ Le He x2 y2 oe T2).mono ?_); rintro e w3 ⟨n1, m1, f1, n2, m2, f2, vu, vv, rfl, qa, qb, u3, v3, hb3⟩; have B3 := B2.trans (hb3.mono B2.size); have p3 := p2.below hb3; have q3 := q2.below hb3; have T3 := T2.below hb3; have R3 := R2.below hb3; have x3 := x2.below hb3; have y3 := y2.below hb3; clear p2 q2 T2 R2 x2 y2; obtain ⟨au3, ku3, rfl, -⟩ := u3.view; (try simp only [List.length_nil] at u3); obtain ⟨av3, kv3, rfl, -⟩ := v3.view; try simp only [List.length_nil] at v3)
        | fail)
      have hA6 := below_alloc w3 (.cells #[.bool n1, .slice au3 (digs BB m1).length ku3, .int .i64 f1, .bool n2, .slice av3 (digs BB m2).length kv3, .int .i64 f2] 38 (0, 0))
      have Q4 : Blk (w3.alloc (.cells #[.bool n1, .slice au3 (digs BB m1).length ku3, .int .i64 f1, .bool n2, .slice av3 (digs BB m2).length kv3, .int .i64 f2] 38 (0, 0))) w3.heap.size #[.bool n1, .slice au3 (digs BB m1).length ku3, .int .i64 f1, .bool n2, .slice av3 (digs BB m2).length kv3, .int .i64 f2] := blk_new
      have R4 := R3.below hA6; have u4 := u3.below hA6; have v4 := v3.below hA6
      have B4 := B3.trans (hA6.mono B3.size)
      clear hA6 R3 u3 v3 B3 x3 y3 p3 q3 T3 hb3
      generalize w3.alloc (.cells #[.bool n1, .slice au3 (digs BB m1).length ku3, .int .i64 f1, .bool n2, .slice av3 (digs BB m2).length kv3, .int .i64 f2] 38 (0, 0)) = w4 at *
      obtain ⟨cQ0, cQ1, cQ2, cQ3, cQ4, cQ5, fQ0, fQ1, fQ2, fQ3, fQ4, fQ5, sQ⟩ := Q4.open6
      obtain ⟨cR0, cR1, cR2, cR3, cR4, cR5, fR0, fR1, fR2, fR3, fR4, fR5, sR⟩ := R4.open6
      have qa := Lib.hid qa; have qb := Lib.hid qb
      go_wp2_with fail
      obtain ⟨z0, z1, z2, z3, z4, z5, -⟩ := (R4.set6 (.bool n1) (.slice au3 (digs BB m1).length ku3) (.int .i64 f1) (.bool n2) (.slice av3 (digs BB m2).length kv3) (.int .i64 f2)).open6
      refine bodyPost_ret (v := .tuple #[.agg #[.bool n1, .slice au3 (digs BB m1).length ku3, .int .i64 f1, .bool n2, .slice av3 (digs BB m2).length kv3, .int .i64 f2], .int .i64 0]) ?_ rfl ?_
      · simp [results, Tryd.results15, go_sem, z0, z1, z2, z3, z4, z5]
      · exact ⟨L, H, ok.out, .inl ⟨A, B, Le, He, n1, m1, f1, n2, m2, f2, _, _, rfl, hA.out, hB.out, hf.out, oe, by rw [hkk.out]; exact qa.out, by rw [hkk.out]; exact qb.out, u4.set6 R4 dcells6 _ _ _ _ _ _, v4.set6 R4 dcells6 _ _ _ _ _ _, below_set6 B4 (by omega) _ _ _ _ _ _⟩⟩
    · obtain ⟨cR0, cR1, cR2, cR3, cR4, cR5, fR0, fR1, fR2, fR3, fR4, fR5, sR⟩ := R1.open6
      have hbad := Lib.hid hbad
      go_wp2_with fail
      obtain ⟨z0, z1, z2, z3, z4, z5, -⟩ := (R1.set6 (.bool false) (.slice none 0 0) (.int .i64 0) (.bool false) (.slice none 0 0) (.int .i64 0)).open6
      refine bodyPost_ret (v := .tuple #[.agg #[.bool false, .slice none 0 0, .int .i64 0, .bool false, .slice none 0 0, .int .i64 0], .int .i64 1]) ?_ rfl ?_
      · simp [results, Tryd.results15, go_sem, z0, z1, z2, z3, z4, z5]
      · exact ⟨L, H, ok, .inr ⟨hbad.out, rfl, below_set6 B1 (by omega) _ _ _ _ _ _⟩⟩
end Go.Proofs.YtflkemcoomgoiaaDoor
