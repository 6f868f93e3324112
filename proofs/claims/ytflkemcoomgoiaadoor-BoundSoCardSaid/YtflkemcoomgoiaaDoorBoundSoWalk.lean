/- BoundSo returns true and leaves what was there: the walk. Conditions: math/bits' table stands in its variable. (Printed by wip/gen/gen_bdso.py.) -/
import Derived.Test.YtflkemcoomgoiaaDoorBdSo
import Derived.Test.YtflkemcoomgoiaaDoorET2
import Derived.Test.YtflkemcoomgoiaaDoorRndH
import Derived.Test.YtflkemcoomgoiaaDoorBdC
import Derived.Test.YtflkemcoomgoiaaDoorEp5
import Derived.Deep.CutBlock
import Derived.OneCell
import Derived.Laws.OwnMore
namespace Go.Proofs.YtflkemcoomgoiaaDoor.PBSo
set_option maxRecDepth 100000
open Go.RowKit Go.Proofs.YtflkemcoomgoiaaDoor
set_option linter.unusedVariables false
set_option linter.unusedSimpArgs false

theorem Exp_200 {w : World} {v : Value} {b n' : Bool} {A M : Nat} {e0 E : Int} (h : Num w v A) (hT : Tab w) (r1 : -9223372036854775808 ≤ e0) (r2 : e0 ≤ 9223372036854775807) (q : bareD ⟨b, A, e0⟩ = ⟨n', M, E⟩) (g : rightB M E = true) (sA : bitN A ≤ 400000) :
    Calls Tryd.prog 15 #[.agg #[.bool b, v, .int .i64 e0, .bool b, v, .int .i64 e0], .int .i64 200] w (fun e w' => ∃ p1 k1 f1 p2 k2 f2 x y kk, e = .returned (.tuple #[.agg #[.bool p1, x, .int .i64 f1, .bool p2, y, .int .i64 f2], .int .i64 0]) ∧ ExpV ⟨n', M, E⟩ ⟨p1, k1, f1⟩ ⟨p2, k2, f2⟩ 200 kk ∧ RdN w' x (digs BB k1) ∧ RdN w' y (digs BB k2) ∧ Below w.heap.size w w') := by
  have := Exp_t (s := 200) h h hT r1 r2 q g sA (by decide) (by decide)
  refine this.mono ?_
  rintro e w' ⟨p1, k1, f1, p2, k2, f2, x, y, er, rfl, ho, hr⟩
  rcases ho with ⟨rfl, k, o⟩ | ⟨-, h40⟩
  · obtain ⟨L, H, -, -, -, ov⟩ := o
    exact ⟨p1, k1, f1, p2, k2, f2, x, y, k, rfl, ov, hr⟩
  · exact absurd h40 (by decide)
theorem cmp_self {d : Dn} : cmpD d d = 0 := by
  rcases cmpD_val d d with ⟨h, _⟩ | ⟨_, h⟩ | ⟨h, _⟩
  · exfalso; grind
  · exact h
  · exfalso; grind
theorem cmp_one_le {w : World} {v u : Value} {k : Nat} {f : Int} (h : RdN w v (digs BB k)) (k' : RdN w u (digs BB 1)) (hT : Tab w) (z : bitN k ≤ 20000 ∧ -1000000000 ≤ f ∧ f ≤ 1001000000) :
    Calls Tryd.prog 17 #[.agg #[.bool false, v, .int .i64 f], .agg #[.bool false, u, .int .i64 0]] w (fun e w' => ∃ c : Int, e = .returned (.int .i64 c) ∧ ((decide (c ≤ 0) = true ∧ qv ⟨false, k, f⟩ ≤ 1) ∨ (decide (c ≤ 0) = false ∧ 1 < qv ⟨false, k, f⟩)) ∧ Below w.heap.size w w') := by
  have e1 : qv ⟨false, 1, 0⟩ = 1 := by rw [qv_pos, pw_zero, Rat.mul_one]; rfl
  refine (Cmp_v (n1 := false) (n2 := false) (h.num (by omega)) (k'.num (by rw [bitN_one]; decide)) hT (by omega) (by rw [bitN_one]; decide) (by omega) (by omega) (by decide) (by decide)).mono ?_
  rintro e w' ⟨c, rfl, hc, hb⟩
  rw [e1] at hc
  refine ⟨c, rfl, ?_, hb⟩
  rcases hc with ⟨h1, h2⟩ | ⟨h1, h2⟩ | ⟨h1, h2⟩
  · exact .inl ⟨decide_eq_true (by omega), Rat.le_of_lt h1⟩
  · exact .inl ⟨decide_eq_true (by omega), by rw [h1]; exact Rat.le_refl⟩
  · exact .inr ⟨decide_eq_false (by omega), h1⟩
theorem cmp_one_ge {w : World} {v u : Value} {k : Nat} {f : Int} (h : RdN w v (digs BB k)) (k' : RdN w u (digs BB 1)) (hT : Tab w) (z : bitN k ≤ 20000 ∧ -1000000000 ≤ f ∧ f ≤ 1001000000) :
    Calls Tryd.prog 17 #[.agg #[.bool false, v, .int .i64 f], .agg #[.bool false, u, .int .i64 0]] w (fun e w' => ∃ c : Int, e = .returned (.int .i64 c) ∧ ((decide (0 ≤ c) = true ∧ 1 ≤ qv ⟨false, k, f⟩) ∨ (decide (0 ≤ c) = false ∧ qv ⟨false, k, f⟩ < 1)) ∧ Below w.heap.size w w') := by
  have e1 : qv ⟨false, 1, 0⟩ = 1 := by rw [qv_pos, pw_zero, Rat.mul_one]; rfl
  refine (Cmp_v (n1 := false) (n2 := false) (h.num (by omega)) (k'.num (by rw [bitN_one]; decide)) hT (by omega) (by rw [bitN_one]; decide) (by omega) (by omega) (by decide) (by decide)).mono ?_
  rintro e w' ⟨c, rfl, hc, hb⟩
  rw [e1] at hc
  refine ⟨c, rfl, ?_, hb⟩
  rcases hc with ⟨h1, h2⟩ | ⟨h1, h2⟩ | ⟨h1, h2⟩
  · exact .inr ⟨decide_eq_false (by omega), h1⟩
  · exact .inl ⟨decide_eq_true (by omega), by rw [h1]; exact Rat.le_refl⟩
  · exact .inl ⟨decide_eq_true (by omega), Rat.le_of_lt h1⟩
theorem own_row5 {w : World} {base n : Nat} {e : TypeId} {v : Value} {xs : List Value} (h : w.ownsRow base e 1 v n xs) (hn : 0 < n) : ∃ g cap, v = .slice (some ⟨g, 0, none⟩) n cap ∧ base ≤ g := by
  rcases h.2 with ⟨_, h0⟩ | ⟨g, cap, cur, hv, hb, hg, _⟩
  · omega
  · exact ⟨g, cap, hv, hb⟩
theorem own_set {w : World} {base n g cap b : Nat} {e : TypeId} {xs : List Value} (h : w.ownsRow base e 1 (.slice (some ⟨g, 0, none⟩) n cap) n xs) (hb : b ≠ g) (j : Nat) (u : Value) : (w.setCell ⟨b, j, none⟩ u).ownsRow base e 1 (.slice (some ⟨g, 0, none⟩) n cap) n xs ∧ True :=
  ⟨ownsRow_setCell_other h (by simp [Value.ownBlock]; exact fun e => hb e.symm) u, trivial⟩
theorem _root_.Go.Proofs.YtflkemcoomgoiaaDoor.RdN.fr2 {w w' : World} {v : Value} {l : List Nat} {b : Nat} {c : Array Value} (h : RdN w v l) (hB : Blk w b c) (hc : ∀ x ∈ c.toList, ∀ n : Nat, x ≠ L64 n) (F : Fr (fun x => x = b ∨ w.heap.size ≤ x) w w') : RdN w' v l := by
  have h1 := (h.away hB hc).mono (N' := fun g => g ≠ b ∧ g < w.heap.size) (fun g h1 h2 => ⟨h2, h1⟩)
  exact (h1.keep F (fun g hg hs => by rcases hs with h | h; exact hg.1 h; omega)).mono (fun _ _ _ => trivial)
theorem _root_.Go.Proofs.YtflkemcoomgoiaaDoor.Blk.fr {S : Nat → Prop} {w w' : World} {b : Nat} {c : Array Value} (h : Blk w b c) (F : Fr S w w') (hs : ¬ S b) : Blk w' b c := by
  obtain ⟨h1, T, h2⟩ := h
  exact ⟨Nat.lt_of_lt_of_le h1 F.size, T, F.at h2 hs⟩
theorem num_one256 {w : World} {base g cap : Nat} {e : TypeId} (h : w.ownsRow base e 1 (.slice (some ⟨g, 0, none⟩) 5 cap) 5 ((((List.replicate 4 0).map L64) ++ [L64 1]).set 0 (.int .u64 1))) : Num w (.slice (some ⟨g, 0, none⟩) 5 cap) one256 := by
  refine ⟨[1, 0, 0, 0, 1], ?_, ?_, by decide, by decide⟩
  · exact Rd.of_own h (fun _ _ => trivial)
  · exact Dig.cons (by decide) (Dig.cons (by decide) (Dig.cons (by decide) (Dig.cons (by decide) (Dig.cons (by decide) (Dig.nil _)))))
theorem To_so {w : World} {v : Value} {neg more : Bool} {M b : Nat} {e dir f : Int} (h : Num w v M) (hT : Tab w) (d0 : 0 ≤ dir) (d3 : dir ≤ 3) (o : SoOk neg more M e dir b f) :
    Calls Tryd.prog 18 #[.agg #[.bool neg, v, .int .i64 e], .bool more, .int .i64 dir] w (fun r w' => r = .returned (.tuple #[L64 b, .int .u8 f, .int .i64 0]) ∧ Below w.heap.size w w') := by
  obtain ⟨o1, o2, o3, o4, o5⟩ := o
  have := To_any (neg := neg) (E := e) (more := more) h hT (by omega) (by omega) (bareD_odd' (neg := neg) o1 (by omega) (by omega)) (by unfold fitsE; rw [decide_eq_true (by omega), decide_eq_true (by omega)]; rfl) d0 d3 (by omega) o2
  rw [o5] at this
  exact this
theorem num_les256 {w : World} {e : TypeId} {g : Nat} (h : w.heap.size = g) : Num (w.alloc (.cells #[.int .u64 18446744073709551615, .int .u64 18446744073709551615, .int .u64 18446744073709551615, .int .u64 18446744073709551615] e (0, 0))) (.slice (some ⟨g, 0, none⟩) 4 4) les256 := by
  subst h
  have own := World.ownsRow_lit (base := 0) (e := e) (size := 1) w #[.int .u64 18446744073709551615, .int .u64 18446744073709551615, .int .u64 18446744073709551615, .int .u64 18446744073709551615] 4 (Nat.zero_le _) (by decide) rfl
  refine ⟨[18446744073709551615, 18446744073709551615, 18446744073709551615, 18446744073709551615], ?_, ?_, by decide, by decide⟩
  · exact Rd.of_own own (fun _ _ => trivial)
  · exact Dig.cons (by decide) (Dig.cons (by decide) (Dig.cons (by decide) (Dig.cons (by decide) (Dig.nil _))))
theorem _root_.Go.Proofs.YtflkemcoomgoiaaDoor.Num.fr2 {w w' : World} {v : Value} {n b : Nat} {c : Array Value} (h : Num w v n) (hB : Blk w b c) (hc : ∀ x ∈ c.toList, ∀ n : Nat, x ≠ L64 n) (F : Fr (fun x => x = b ∨ w.heap.size ≤ x) w w') : Num w' v n := by
  obtain ⟨l, h1, h2⟩ := h
  exact ⟨l, h1.fr2 hB hc F, h2⟩
theorem small_1024 {n : Bool} {M : Nat} {E : Int} (h : (bitN M : Int) + E ≤ 10) : -1024 < qv ⟨n, M, E⟩ ∧ qv ⟨n, M, E⟩ < 1024 := by
  have hb : (M : Rat) < ((2 ^ bitN M : Nat) : Rat) := Rat.natCast_lt_natCast.2 (bitN_lt M)
  have h2 := Rat.mul_lt_mul_of_pos_right hb (pw_pos E)
  rw [← pw_nat, ← pw_add] at h2
  have h3 := pw_mono h
  have h4 : pw 10 = 1024 := by
    have := pw_nat 10
    rw [show ((10 : Nat) : Int) = 10 from rfl] at this
    rw [this]; decide +kernel
  rw [h4] at h3
  have h5 : 0 ≤ (M : Rat) * pw E := Rat.mul_nonneg (rq_nat_nonneg M) (Rat.le_of_lt (pw_pos E))
  cases n
  · rw [qv_pos]; constructor <;> grind
  · rw [qv_neg]; constructor <;> grind
theorem res_zero {neg ok : Bool} {dir f : Int} {b : Nat} (d0 : 0 ≤ dir) (d3 : dir ≤ 3) (h : resB 0 neg dir = (b, f, ok)) : ok = false := by
  unfold resB at h
  rw [if_neg (by omega), if_neg (by decide), if_neg (by decide), if_neg (by decide), if_neg (by decide)] at h
  injection h with _ h; injection h with _ h; exact h.symm
theorem res_some {neg ok : Bool} {c dir f : Int} {b : Nat} {p q r t : Prop} (d0 : 0 ≤ dir) (d3 : dir ≤ 3) (hc : c = 0 ∨ (c = 1 ∧ p) ∨ (c = 2 ∧ q) ∨ (c = 3 ∧ r) ∨ (c = 4 ∧ t)) (h0 : c ≠ 0) (h : resB c neg dir = (b, f, ok)) : ok = true := by
  unfold resB at h
  rw [if_neg (by omega)] at h
  rcases hc with hc | ⟨rfl, -⟩ | ⟨rfl, -⟩ | ⟨rfl, -⟩ | ⟨rfl, -⟩
  · exact absurd hc h0
  all_goals
    simp at h
    exact h.2.2

set_option maxRecDepth 100000 in
set_option maxHeartbeats 8000000 in
theorem walk (mi ei : Int) (neg : Bool) (di : Int) (w : World) (wm : (Lit.int .u64 mi).wf = true) (we : (Lit.int .u8 ei).wf = true) (wd : (Lit.int .u8 di).wf = true) (hT : Tab w) :
    Calls Tryd.prog 5 #[.int .u64 mi, .int .u8 ei, .bool neg, .int .u8 di] w fun e w' => e = .returned (.bool true) ∧ Below w.heap.size w w' := by
  have h1 : 0 ≤ mi ∧ mi ≤ 18446744073709551615 := by simpa [Lit.wf, IntKind.min, IntKind.max, IntKind.bits, IntKind.signed] using wm
  have h2 : 0 ≤ ei ∧ ei ≤ 255 := by simpa [Lit.wf, IntKind.min, IntKind.max, IntKind.bits, IntKind.signed] using we
  have h3 : 0 ≤ di ∧ di ≤ 255 := by simpa [Lit.wf, IntKind.min, IntKind.max, IntKind.bits, IntKind.signed] using wd
  clear wm we wd
  obtain ⟨m, rfl⟩ : ∃ n : Nat, mi = (n : Int) := ⟨mi.toNat, by omega⟩
  obtain ⟨e, rfl⟩ : ∃ n : Nat, ei = (n : Int) := ⟨ei.toNat, by omega⟩
  obtain ⟨g, rfl⟩ : ∃ n : Nat, di = (n : Int) := ⟨di.toNat, by omega⟩
  obtain ⟨r, hr⟩ : ∃ r, e % 2 = r := ⟨_, rfl⟩
  obtain ⟨ng, hng⟩ : ∃ b, decide (r = 1) = b := ⟨_, rfl⟩
  obtain ⟨q, hq⟩ : ∃ q, e / 2 = q := ⟨_, rfl⟩
  obtain ⟨k, hk⟩ : ∃ k, q % 80 = k := ⟨_, rfl⟩
  obtain ⟨dn, hdn⟩ : ∃ d, g % 4 = d := ⟨_, rfl⟩
  obtain ⟨E, hE⟩ : ∃ E : Int, -54 - (k : Int) = E := ⟨_, rfl⟩
  have t1 : (e : Int).tmod 2 = (r : Int) := by rw [← hr]; rfl
  have t2 : ((r : Int) == 1) = ng := by
    rw [← hng]
    by_cases c : r = 1
    · rw [c]; rfl
    · rw [decide_eq_false c]; exact beq_false_of_ne (by omega)
  have t3 : (e : Int).tdiv 2 = (q : Int) := by rw [← hq]; rfl
  have t4 : (q : Int).tmod 80 = (k : Int) := by rw [← hk]; rfl
  have t5 : (g : Int).tmod 4 = (dn : Int) := by rw [← hdn]; rfl
  have t6 : (q : Int) % 256 = (q : Int) := by omega
  have t7 : (q : Int) % 80 = (k : Int) := by omega
  have t8 := hE
  have k80 : k < 80 := by omega
  have d4 : dn < 4 := by omega
  have wE : IntKind.i64.wrap (-54 - (k : Int)) = E := by rw [← hE, IntKind.wrap_i64]; omega
  have hE' := Lib.hid hE
  clear hr hng hq hk hdn hE
  have hBB : BB = 18446744073709551616 := rfl
  have mB : m < BB := by omega
  clear hBB
  have t10h := Lib.hid (wwN (n := dn) (by omega))
  have t11h := Lib.hid (iwN (n := dn) (by omega))
  have wEh := Lib.hid wE
  clear wE
  obtain ⟨⟨n', M, E'⟩, ed⟩ : ∃ d, bareD ⟨ng, m, E⟩ = d := ⟨_, rfl⟩
  have rE : -133 ≤ E ∧ E ≤ -54 := by omega
  have sm : bitN m ≤ 64 := bitN_le.2 (by rw [show (2 : Nat) ^ 64 = 18446744073709551616 by decide]; omega)
  have hEd : (bareD ⟨ng, m, E⟩).e = E' := by rw [ed]
  by_cases hm0 : m = 0
  · have HSG := Lib.hid (fun w v (h : Num w v m) => Sign_n (neg := ng) (E := E) (s := 0) h (by unfold signD; rw [if_pos hm0]))
    rw [bareD_zero (show (⟨ng, m, E⟩ : Dn).m = 0 from hm0)] at ed
    injection ed with e1 e2 e3
    have hf : fitsE (bareD ⟨ng, m, E⟩).e = true := by rw [hEd, ← e3]; decide
    have HOF := Lib.hid (fun w v (h : Num w v m) (hT : Tab w) => bOf_n (s := 0) (k := 0) h h hT (by omega) (by omega) (by omega) (by omega) (by omega) (by omega) hf hf rfl rfl rfl rfl rfl (by unfold ofB; rw [if_pos (.inl rfl)]))
    clear h1 h2 h3 k80 d4 hE' hm0 e1 e2 e3 hf hEd sm rE
    have t10 := t10h.out; have t11 := t11h.out; have wE := wEh.out
    clear t10h t11h wEh
    go_enter Tryd.func5, Tryd.ntmps5
    go_upto_region 4 with
  (first
    | (go_at_call 6; (with_reducible refine (alive21_any hT).mono ?_); rintro e w1 ⟨rfl, hb1⟩; have B1 := hb1; have T1 := hT.below hb1; clear hT)
    | fail)
    have RM : RdN ((w1.alloc (.cells #[.int .u64 (m : Int)] 41 (0, 0))).alloc (.cells #[.bool ng, .slice (some ⟨w1.heap.size, 0, none⟩) 1 1, .int .i64 E] 36 (0, 0))) (.slice (some ⟨w1.heap.size, 0, none⟩) 1 1) [m] := (rd_one (heap_alloc_new _ _) trivial).below (below_alloc _ _)
    have P2 : Blk ((w1.alloc (.cells #[.int .u64 (m : Int)] 41 (0, 0))).alloc (.cells #[.bool ng, .slice (some ⟨w1.heap.size, 0, none⟩) 1 1, .int .i64 E] 36 (0, 0))) (w1.heap.size + 1) #[.bool ng, .slice (some ⟨w1.heap.size, 0, none⟩) 1 1, .int .i64 E] := blk_a2
    have T2 := T1.below (below_2 (o1 := (.cells #[.int .u64 (m : Int)] 41 (0, 0))) (o2 := (.cells #[.bool ng, .slice (some ⟨w1.heap.size, 0, none⟩) 1 1, .int .i64 E] 36 (0, 0))))
    have B2 := hb1.trans ((below_2 (o1 := (.cells #[.int .u64 (m : Int)] 41 (0, 0))) (o2 := (.cells #[.bool ng, .slice (some ⟨w1.heap.size, 0, none⟩) 1 1, .int .i64 E] 36 (0, 0)))).mono hb1.size)
    clear T1
    generalize (w1.alloc (.cells #[.int .u64 (m : Int)] 41 (0, 0))).alloc (.cells #[.bool ng, .slice (some ⟨w1.heap.size, 0, none⟩) 1 1, .int .i64 E] 36 (0, 0)) = w2 at *
    have NM : Num w2 (.slice (some ⟨w1.heap.size, 0, none⟩) 1 1) m := RM.num1 mB
    clear RM
    obtain ⟨cP0_2, cP1_2, cP2_2, fP0_2, fP1_2, fP2_2, sP_2⟩ := P2.open3
    go_wp2_with
  (first
    | (go_at_call 14; (with_reducible refine (HSG.out _ _ NM).mono ?_); rintro e w3 ⟨rfl, hb3⟩; have B3 := B2.trans (hb3.mono B2.size); have x3 := NM.below hb3; have T3 := T2.below hb3; have P3 := P2.below hb3; clear NM T2 P2; obtain ⟨cP0_3, cP1_3, cP2_3, fP0_3, fP1_3, fP2_3, sP_3⟩ := P3.open3)
    | (go_at_call 10; (with_reducible refine (HOF.out _ _ (x3.below (below_alloc _ _)) (T3.below (below_alloc _ _))).mono ?_); rintro e w4 ⟨rfl, hb4⟩; have hb4' := (below_a hb4); have B4 := B3.trans (hb4'.mono B3.size); have x4 := x3.below hb4'; have T4 := T3.below hb4'; have P4 := P3.below hb4'; clear x3 T3 P3; have I4 := blk_new.below hb4; clear cP0_3 cP1_3 cP2_3 fP0_3 fP1_3 fP2_3 sP_3; obtain ⟨cP0_4, cP1_4, cP2_4, fP0_4, fP1_4, fP2_4, sP_4⟩ := P4.open3; obtain ⟨cI0_4, cI1_4, cI2_4, cI3_4, cI4_4, cI5_4, fI0_4, fI1_4, fI2_4, fI3_4, fI4_4, fI5_4, sI_4⟩ := I4.open6)
    | fail)
    all_goals
      go_ret
      exact ⟨rfl, by assumption⟩

  obtain rfl : n' = ng := by
    rw [bareD_pos hm0] at ed
    injection ed with e1
    exact e1.symm
  have sM : bitN M ≤ 64 := Nat.le_trans (bareD_bits ed) sm
  have hM0 : M ≠ 0 := fun h => hm0 (by
    have := bareD_pos (d := ⟨n', m, E⟩) hm0
    rw [ed] at this
    injection this with _ e2
    have hl := low2_eq hm0
    obtain ⟨y, hy⟩ := hl
    have := odd_eq hy
    dsimp only at e2
    omega)
  have hb1' : bitN M + low2 m = bitN m ∧ E' = E + (low2 m : Nat) := by
    have := bareD_pos (d := ⟨n', m, E⟩) hm0
    rw [ed] at this
    injection this with _ e2 e3
    dsimp only at e2 e3
    rw [e2, bitN_low2 hm0, e3, show cutE E = E by unfold cutE; omega]
    exact ⟨rfl, rfl⟩
  have rE' : -133 ≤ E' ∧ E' ≤ 10 := by have := low2_lt hm0; omega
  have hg : rightB M E' = true := by
    unfold rightB fitsE topD
    simp only [Bool.and_eq_true, Bool.or_eq_true, decide_eq_true_eq]
    exact ⟨⟨by omega, by omega⟩, by omega, by omega, .inr (by omega)⟩
  obtain ⟨v1, v2⟩ : -1024 < qv ⟨n', M, E'⟩ ∧ qv ⟨n', M, E'⟩ < 1024 := small_1024 (by omega)
  obtain ⟨s, hsg⟩ : ∃ s, signD ⟨n', M, E'⟩ = s := ⟨_, rfl⟩
  have hsg2 : signD ⟨n', m, E⟩ = s := by rw [← hsg]; unfold signD; rw [if_neg hm0, if_neg hM0]
  have HSG := Lib.hid (fun w v (h : Num w v m) => Sign_n (neg := n') (E := E) h hsg2)
  obtain ⟨ca, hca⟩ : ∃ c, cmpD ⟨n', M, E'⟩ ⟨false, 355, 1⟩ = c := ⟨_, rfl⟩
  obtain ⟨cb, hcb⟩ : ∃ c, cmpD ⟨n', M, E'⟩ ⟨true, 373, 1⟩ = c := ⟨_, rfl⟩
  obtain ⟨cn, hcn⟩ : ∃ c, cmpD ⟨n', M, E'⟩ ⟨false, 1, -60⟩ = c := ⟨_, rfl⟩
  obtain ⟨co, hco⟩ : ∃ c, cmpD ⟨n', M, E'⟩ ⟨true, 1, -60⟩ = c := ⟨_, rfl⟩
  obtain ⟨c, hk⟩ : ∃ c, ofB s true ca cb cn co = c := ⟨_, rfl⟩
  have hf : fitsE (bareD ⟨n', m, E⟩).e = true := by rw [hEd]; unfold fitsE; rw [decide_eq_true (by omega), decide_eq_true (by omega)]; rfl
  have HOF := Lib.hid (fun w v (h : Num w v m) (hT : Tab w) => bOf_n (s := s) (k := c) (c := 0) h h hT (by omega) (by omega) (by omega) (by omega) (by omega) (by omega) hf hf (by rw [ed]; exact cmp_self) (by rw [ed]; exact hca) (by rw [ed]; exact hcb) (by rw [ed]; exact hcn) (by rw [ed]; exact hco) hk)
  have HEX := Lib.hid (fun w v (h : Num w v m) (hT : Tab w) => Exp_200 h hT (by omega) (by omega) ed hg (by omega))
  have hdir : Hid (0 ≤ (dn : Int) ∧ (dn : Int) ≤ 3) := Lib.hid (by omega)
  obtain ⟨⟨b, f, ok⟩, hrs⟩ : ∃ r, resB c neg (dn : Int) = r := ⟨_, rfl⟩
  have HRS := Lib.hid (fun w (hT : Tab w) => Result_n (w := w) hT hrs)
  have s0 : (s == 0) = false := beq_false_of_ne (by rw [← hsg]; unfold signD; rw [if_neg hM0]; split <;> decide)
  have hsn : Hid (s ≠ 0) := Lib.hid (by rw [← hsg]; unfold signD; rw [if_neg hM0]; split <;> decide)
  have hk1 := class_val hsg hca hcb hcn hco hk
  have HO1 := Lib.hid (fun w (hT : Tab w) => show Calls Tryd.prog 16 #[.int .i64 1] w _ from Of_n (n := 1) (by decide) hT (show bareD ⟨false, 1, 0⟩ = ⟨false, 1, 0⟩ from bareD_odd (by decide) (by decide) (by decide)))
  have hs := Lib.hid (signD_val ⟨n', M, E'⟩)
  rw [hsg] at hs
  clear h1 h2 h3 k80 d4 hE' rE sm hEd sM hb1' rE' hg hf hsg2 hm0 ed
  have t10 := t10h.out; have t11 := t11h.out; have wE := wEh.out
  clear t10h t11h wEh
  go_enter Tryd.func5, Tryd.ntmps5
  go_upto_region 4 with
  (first
    | (go_at_call 6; (with_reducible refine (alive21_any hT).mono ?_); rintro e w1 ⟨rfl, hb1⟩; have B1 := hb1; have T1 := hT.below hb1; clear hT)
    | fail)
  have RM : RdN ((w1.alloc (.cells #[.int .u64 (m : Int)] 41 (0, 0))).alloc (.cells #[.bool n', .slice (some ⟨w1.heap.size, 0, none⟩) 1 1, .int .i64 E] 36 (0, 0))) (.slice (some ⟨w1.heap.size, 0, none⟩) 1 1) [m] := (rd_one (heap_alloc_new _ _) trivial).below (below_alloc _ _)
  have P2 : Blk ((w1.alloc (.cells #[.int .u64 (m : Int)] 41 (0, 0))).alloc (.cells #[.bool n', .slice (some ⟨w1.heap.size, 0, none⟩) 1 1, .int .i64 E] 36 (0, 0))) (w1.heap.size + 1) #[.bool n', .slice (some ⟨w1.heap.size, 0, none⟩) 1 1, .int .i64 E] := blk_a2
  have T2 := T1.below (below_2 (o1 := (.cells #[.int .u64 (m : Int)] 41 (0, 0))) (o2 := (.cells #[.bool n', .slice (some ⟨w1.heap.size, 0, none⟩) 1 1, .int .i64 E] 36 (0, 0))))
  have B2 := hb1.trans ((below_2 (o1 := (.cells #[.int .u64 (m : Int)] 41 (0, 0))) (o2 := (.cells #[.bool n', .slice (some ⟨w1.heap.size, 0, none⟩) 1 1, .int .i64 E] 36 (0, 0)))).mono hb1.size)
  clear T1
  generalize (w1.alloc (.cells #[.int .u64 (m : Int)] 41 (0, 0))).alloc (.cells #[.bool n', .slice (some ⟨w1.heap.size, 0, none⟩) 1 1, .int .i64 E] 36 (0, 0)) = w2 at *
  have NM : Num w2 (.slice (some ⟨w1.heap.size, 0, none⟩) 1 1) m := RM.num1 mB
  clear RM
  obtain ⟨cP0_2, cP1_2, cP2_2, fP0_2, fP1_2, fP2_2, sP_2⟩ := P2.open3
  by_cases hk0 : c = 0
  · obtain rfl : ok = false := by rw [hk0] at hrs; exact (res_zero hdir.out.1 hdir.out.2 hrs)
    have c0 : (c == 0) = true := by rw [hk0]; rfl
    clear hk0 hrs
    go_wp2_with
  (first
    | (go_at_call 14; (with_reducible refine (HSG.out _ _ NM).mono ?_); rintro e w3 ⟨rfl, hb3⟩; have B3 := B2.trans (hb3.mono B2.size); have x3 := NM.below hb3; have T3 := T2.below hb3; have P3 := P2.below hb3; clear NM T2 P2; obtain ⟨cP0_3, cP1_3, cP2_3, fP0_3, fP1_3, fP2_3, sP_3⟩ := P3.open3)
    | (go_at_call 10; (with_reducible refine (HOF.out _ _ (x3.below (below_alloc _ _)) (T3.below (below_alloc _ _))).mono ?_); rintro e w4 ⟨rfl, hb4⟩; have hb4' := (below_a hb4); have B4 := B3.trans (hb4'.mono B3.size); have x4 := x3.below hb4'; have T4 := T3.below hb4'; have P4 := P3.below hb4'; clear x3 T3 P3; have I4 := blk_new.below hb4; clear cP0_3 cP1_3 cP2_3 fP0_3 fP1_3 fP2_3 sP_3; obtain ⟨cP0_4, cP1_4, cP2_4, fP0_4, fP1_4, fP2_4, sP_4⟩ := P4.open3; obtain ⟨cI0_4, cI1_4, cI2_4, cI3_4, cI4_4, cI5_4, fI0_4, fI1_4, fI2_4, fI3_4, fI4_4, fI5_4, sI_4⟩ := I4.open6)
    | (go_at_call 15; (with_reducible refine (HEX.out _ _ x4 T4).mono ?_); rintro e w5 ⟨p1, k1, f1, p2, k2, f2, vx, vy, kk, rfl, ho, y5, z5, hb5⟩; have B5 := B4.trans (hb5.mono B4.size); have x5 := x4.below hb5; have T5 := T4.below hb5; have P5 := P4.below hb5; have I5 := I4.below hb5; clear x4 T4 P4 I4; clear cP0_4 cP1_4 cP2_4 fP0_4 fP1_4 fP2_4 sP_4; obtain ⟨cP0_5, cP1_5, cP2_5, fP0_5, fP1_5, fP2_5, sP_5⟩ := P5.open3; clear cI0_4 cI1_4 cI2_4 cI3_4 cI4_4 cI5_4 fI0_4 fI1_4 fI2_4 fI3_4 fI4_4 fI5_4 sI_4; obtain ⟨cI0_5, cI1_5, cI2_5, cI3_5, cI4_5, cI5_5, fI0_5, fI1_5, fI2_5, fI3_5, fI4_5, fI5_5, sI_5⟩ := I5.open6; obtain ⟨ay5, ky5, rfl, -⟩ := y5.view; (try simp only [List.length_nil] at y5); obtain ⟨az5, kz5, rfl, -⟩ := z5.view; try simp only [List.length_nil] at z5)
    | (go_at_call 12; (with_reducible refine (HRS.out _ (T5.below (below_alloc _ _))).mono ?_); rintro e w6 ⟨rfl, hb6⟩; have hb6' := (below_a hb6); have B6 := B5.trans (hb6'.mono B5.size); have x6 := x5.below hb6'; have T6 := T5.below hb6'; have P6 := P5.below hb6'; have I6 := I5.below hb6'; have y6 := y5.below hb6'; have z6 := z5.below hb6'; clear x5 T5 P5 I5 y5 z5; have J6 := blk_new.below hb6; clear cP0_5 cP1_5 cP2_5 fP0_5 fP1_5 fP2_5 sP_5; obtain ⟨cP0_6, cP1_6, cP2_6, fP0_6, fP1_6, fP2_6, sP_6⟩ := P6.open3; clear cI0_5 cI1_5 cI2_5 cI3_5 cI4_5 cI5_5 fI0_5 fI1_5 fI2_5 fI3_5 fI4_5 fI5_5 sI_5; obtain ⟨cI0_6, cI1_6, cI2_6, cI3_6, cI4_6, cI5_6, fI0_6, fI1_6, fI2_6, fI3_6, fI4_6, fI5_6, sI_6⟩ := I6.open6; obtain ⟨cJ0_6, cJ1_6, cJ2_6, cJ3_6, cJ4_6, cJ5_6, fJ0_6, fJ1_6, fJ2_6, fJ3_6, fJ4_6, fJ5_6, sJ_6⟩ := J6.open6)
    | fail)
    all_goals
      go_ret
      exact ⟨rfl, by assumption⟩
  obtain rfl : ok = true := res_some hdir.out.1 hdir.out.2 hk1 hk0 hrs
  have c0 : (c == 0) = false := beq_false_of_ne hk0
  have hlaw := Lib.hid (fun p1 k1 f1 p2 k2 f2 kk (o : ExpV ⟨n', M, E'⟩ ⟨p1, k1, f1⟩ ⟨p2, k2, f2⟩ 200 kk) => so_law o v1 v2 hsg hca hcb hcn hco hk hk0 hdir.out.1 hdir.out.2 hrs)
  clear hrs hk1 hk0 hk hca hcb hcn hco
  go_upto_region 15 with
  (first
    | (go_at_call 14; (with_reducible refine (HSG.out _ _ NM).mono ?_); rintro e w3 ⟨rfl, hb3⟩; have B3 := B2.trans (hb3.mono B2.size); have x3 := NM.below hb3; have T3 := T2.below hb3; have P3 := P2.below hb3; clear NM T2 P2; obtain ⟨cP0_3, cP1_3, cP2_3, fP0_3, fP1_3, fP2_3, sP_3⟩ := P3.open3)
    | (go_at_call 10; (with_reducible refine (HOF.out _ _ (x3.below (below_alloc _ _)) (T3.below (below_alloc _ _))).mono ?_); rintro e w4 ⟨rfl, hb4⟩; have hb4' := (below_a hb4); have B4 := B3.trans (hb4'.mono B3.size); have x4 := x3.below hb4'; have T4 := T3.below hb4'; have P4 := P3.below hb4'; clear x3 T3 P3; have I4 := blk_new.below hb4; clear cP0_3 cP1_3 cP2_3 fP0_3 fP1_3 fP2_3 sP_3; obtain ⟨cP0_4, cP1_4, cP2_4, fP0_4, fP1_4, fP2_4, sP_4⟩ := P4.open3; obtain ⟨cI0_4, cI1_4, cI2_4, cI3_4, cI4_4, cI5_4, fI0_4, fI1_4, fI2_4, fI3_4, fI4_4, fI5_4, sI_4⟩ := I4.open6)
    | (go_at_call 15; (with_reducible refine (HEX.out _ _ x4 T4).mono ?_); rintro e w5 ⟨p1, k1, f1, p2, k2, f2, vx, vy, kk, rfl, ho, y5, z5, hb5⟩; have B5 := B4.trans (hb5.mono B4.size); have x5 := x4.below hb5; have T5 := T4.below hb5; have P5 := P4.below hb5; have I5 := I4.below hb5; clear x4 T4 P4 I4; clear cP0_4 cP1_4 cP2_4 fP0_4 fP1_4 fP2_4 sP_4; obtain ⟨cP0_5, cP1_5, cP2_5, fP0_5, fP1_5, fP2_5, sP_5⟩ := P5.open3; clear cI0_4 cI1_4 cI2_4 cI3_4 cI4_4 cI5_4 fI0_4 fI1_4 fI2_4 fI3_4 fI4_4 fI5_4 sI_4; obtain ⟨cI0_5, cI1_5, cI2_5, cI3_5, cI4_5, cI5_5, fI0_5, fI1_5, fI2_5, fI3_5, fI4_5, fI5_5, sI_5⟩ := I5.open6; obtain ⟨ay5, ky5, rfl, -⟩ := y5.view; (try simp only [List.length_nil] at y5); obtain ⟨az5, kz5, rfl, -⟩ := z5.view; try simp only [List.length_nil] at z5)
    | (go_at_call 12; (with_reducible refine (HRS.out _ (T5.below (below_alloc _ _))).mono ?_); rintro e w6 ⟨rfl, hb6⟩; have hb6' := (below_a hb6); have B6 := B5.trans (hb6'.mono B5.size); have x6 := x5.below hb6'; have T6 := T5.below hb6'; have P6 := P5.below hb6'; have I6 := I5.below hb6'; have y6 := y5.below hb6'; have z6 := z5.below hb6'; clear x5 T5 P5 I5 y5 z5; have J6 := blk_new.below hb6; clear cP0_5 cP1_5 cP2_5 fP0_5 fP1_5 fP2_5 sP_5; obtain ⟨cP0_6, cP1_6, cP2_6, fP0_6, fP1_6, fP2_6, sP_6⟩ := P6.open3; clear cI0_5 cI1_5 cI2_5 cI3_5 cI4_5 cI5_5 fI0_5 fI1_5 fI2_5 fI3_5 fI4_5 fI5_5 sI_5; obtain ⟨cI0_6, cI1_6, cI2_6, cI3_6, cI4_6, cI5_6, fI0_6, fI1_6, fI2_6, fI3_6, fI4_6, fI5_6, sI_6⟩ := I6.open6; obtain ⟨cJ0_6, cJ1_6, cJ2_6, cJ3_6, cJ4_6, cJ5_6, fJ0_6, fJ1_6, fJ2_6, fJ3_6, fJ4_6, fJ5_6, sJ_6⟩ := J6.open6)
    | fail)
  have hl := hlaw.out _ _ _ _ _ _ _ ho
  obtain ⟨⟨rfl, rfl⟩, hl1, hl2⟩ := hl
  have hl1 := Lib.hid hl1; have hl2 := Lib.hid hl2
  go_cut [18, 19] (fun v18 v19 w' => ∃ b18 b19, v18 = .pointer (some ⟨b18, 0, none⟩) ∧ v19 = .pointer (some ⟨b19, 0, none⟩) ∧ b18 ≠ b19 ∧ Blk w' b18 #[.bool false, .slice ay5 (digs BB k1).length ky5, .int .i64 f1] ∧ Blk w' b19 #[.bool false, .slice az5 (digs BB k2).length kz5, .int .i64 f2] ∧ w6.heap.size ≤ b18 ∧ w6.heap.size ≤ b19 ∧ Below w6.heap.size w6 w')
  case first =>
    have Dw : Below w6.heap.size w6 w6.drew := below_drewN (Below.refl _ _) 1
    have zd := Lib.hid (cells46 (J6.below Dw))
    clear cJ0_6 cJ1_6 cJ2_6 cJ3_6 cJ4_6 cJ5_6 fJ0_6 fJ1_6 fJ2_6 fJ3_6 fJ4_6 fJ5_6 sJ_6
    go_region_held3 (fun w' => w'.cell? ⟨w5.heap.size, 0, none⟩ = some (.bool false) ∧ w'.cell? ⟨w5.heap.size, 1, none⟩ = some (.slice ay5 (digs BB k1).length ky5) ∧ w'.cell? ⟨w5.heap.size, 2, none⟩ = some (.int .i64 f1) ∧ w'.cell? ⟨w5.heap.size, 3, none⟩ = some (.bool false) ∧ w'.cell? ⟨w5.heap.size, 4, none⟩ = some (.slice az5 (digs BB k2).length kz5) ∧ w'.cell? ⟨w5.heap.size, 5, none⟩ = some (.int .i64 f2))
      (first | exact zd.out | (refine cells46 ?_ <;> (repeat' (first | with_reducible assumption | with_reducible exact blk_new | with_reducible exact blk_a2 | with_reducible exact Below.refl _ _ | with_reducible refine Blk.set3z ?_ _ _ _ | with_reducible refine Blk.other3 ?_ ?_ _ _ _ | with_reducible refine Blk.next ?_ | with_reducible refine Blk.dr ?_ | with_reducible refine bel_dr ?_ | with_reducible refine bel_set3 ?_ ?_ _ _ _ | with_reducible refine bel_next ?_ | with_reducible refine RdD.set3z ?_ ?_ _ _ _ | with_reducible refine RdN.set3z ?_ ?_ _ _ _ | with_reducible refine RdD.below ?_ (below_alloc _ _) | with_reducible refine RdN.below ?_ (below_alloc _ _) | ((try simp only [size_alloc, size_drew]); omega)))))
      (first | fail)
    all_goals
      go_wp2_with fail
      go_meet
      (first
        | exact ⟨_, _, rfl, rfl, Nat.ne_of_lt (Nat.lt_succ_self _), Blk.dr blk_a1, Blk.dr blk_a2, Nat.le_refl _, Nat.le_succ _, below_drewN below_2 1⟩
        | exact ⟨_, _, rfl, rfl, Nat.ne_of_gt (Nat.lt_succ_self _), Blk.dr blk_a2, Blk.dr blk_a1, Nat.le_succ _, Nat.le_refl _, below_drewN below_2 1⟩)
  case rest =>
    obtain ⟨b18, b19, rfl, rfl, hne, L7, H7, l18, l19, hb⟩ := hcut
    generalize hwx : wc = w7 at *
    clear hwx
    have y7 := y6.below hb; have z7 := z6.below hb; have T7 := T6.below hb; have B7 := Lib.hid (B6.trans (hb.mono B6.size)); have T6' := Lib.hid T6; have B6' := Lib.hid B6
    have Bz7 : Below w6.heap.size w6 w7 := hb
    clear hb y6 z6 T6 B6 J6 I6 P6 x6 cJ0_6 cJ1_6 cJ2_6 cJ3_6 cJ4_6 cJ5_6 fJ0_6 fJ1_6 fJ2_6 fJ3_6 fJ4_6 fJ5_6 sJ_6 cI0_6 cI1_6 cI2_6 cI3_6 cI4_6 cI5_6 fI0_6 fI1_6 fI2_6 fI3_6 fI4_6 fI5_6 sI_6 cP0_6 cP1_6 cP2_6 fP0_6 fP1_6 fP2_6 sP_6
    go_upto_region 17 with
  (first
    | (go_at_call 16; (with_reducible refine (HO1.out _ T7).mono ?_); rintro e w8 ⟨vo8, rfl, o8, hb8⟩; have B8 := Bz7.trans (hb8.mono Bz7.size); have y8 := y7.below hb8; have z8 := z7.below hb8; have T8 := T7.below hb8; have L8 := L7.below hb8; have H8 := H7.below hb8; clear y7 z7 T7 L7 H7; obtain ⟨cL0_8, cL1_8, cL2_8, fL0_8, fL1_8, fL2_8, sL_8⟩ := L8.open3; obtain ⟨cH0_8, cH1_8, cH2_8, fH0_8, fH1_8, fH2_8, sH_8⟩ := H8.open3; obtain ⟨uo8, rfl, o8⟩ := o8; obtain ⟨ao8, ko8, rfl, -⟩ := o8.view)
    | fail)
    have O9 : Blk (w8.alloc (.cells #[.bool false, .slice ao8 (digs BB 1).length ko8, .int .i64 0] 36 (0, 0))) w8.heap.size #[.bool false, .slice ao8 (digs BB 1).length ko8, .int .i64 0] := blk_new
    have hA := below_alloc w8 (.cells #[.bool false, .slice ao8 (digs BB 1).length ko8, .int .i64 0] 36 (0, 0))
    have y9 := y8.below hA; have z9 := z8.below hA; have T9 := T8.below hA; have L9 := L8.below hA; have H9 := H8.below hA; have o9 := o8.below hA; have Bz9 := B8.trans (hA.mono B8.size)
    have l20 : w6.heap.size ≤ w8.heap.size := B8.size
    have n20 : b18 ≠ w8.heap.size ∧ b19 ≠ w8.heap.size := ⟨Nat.ne_of_lt L8.1, Nat.ne_of_lt H8.1⟩
    clear hA y8 z8 T8 L8 H8 o8 B8 cL0_8 cL1_8 cL2_8 fL0_8 fL1_8 fL2_8 sL_8 cH0_8 cH1_8 cH2_8 fH0_8 fH1_8 fH2_8 sH_8 Bz7
    generalize w8.alloc (.cells #[.bool false, .slice ao8 (digs BB 1).length ko8, .int .i64 0] 36 (0, 0)) = w9 at *
    generalize w8.heap.size = b20 at *
    replace l18 := Lib.hid l18; replace l19 := Lib.hid l19; replace l20 := Lib.hid l20; replace hne := Lib.hid hne; replace n20 := Lib.hid n20
    have HC1 : Hid (∀ (w : World) v u, RdN w v (digs BB k1) → RdN w u (digs BB 1) → Tab w → Calls Tryd.prog 17 #[.agg #[.bool false, v, .int .i64 f1], .agg #[.bool false, u, .int .i64 0]] w (fun e w' => ∃ c : Int, e = .returned (.int .i64 c) ∧ ((decide (c ≤ 0) = true ∧ qv ⟨false, k1, f1⟩ ≤ 1) ∨ (decide (c ≤ 0) = false ∧ 1 < qv ⟨false, k1, f1⟩)) ∧ Below w.heap.size w w')) := Lib.hid (fun w v u h k hT => cmp_one_le h k hT ho.z1)
    have HC2 : Hid (∀ (w : World) v u, RdN w v (digs BB k2) → RdN w u (digs BB 1) → Tab w → Calls Tryd.prog 17 #[.agg #[.bool false, v, .int .i64 f2], .agg #[.bool false, u, .int .i64 0]] w (fun e w' => ∃ c : Int, e = .returned (.int .i64 c) ∧ ((decide (0 ≤ c) = true ∧ 1 ≤ qv ⟨false, k2, f2⟩) ∨ (decide (0 ≤ c) = false ∧ qv ⟨false, k2, f2⟩ < 1)) ∧ Below w.heap.size w w')) := Lib.hid (fun w v u h k hT => cmp_one_ge h k hT ho.z2)
    go_cut [85] (fun v w' => ∃ t : Bool, v = .bool t ∧ ((t = true ∧ 0 < s ∧ qv ⟨false, k1, f1⟩ ≤ 1) ∨ (t = false ∧ (0 < s → 1 < qv ⟨false, k1, f1⟩))) ∧ Below w9.heap.size w9 w')
    case first =>
      have Bz : Below w9.heap.size w9 w9 := Below.refl _ _
      obtain ⟨cL0, cL1, cL2, fL0, fL1, fL2, sL⟩ := L9.open3
      obtain ⟨cO0, cO1, cO2, fO0, fO1, fO2, sO⟩ := O9.open3
      by_cases sp : 0 < s
      · have dsp : decide (0 < s) = true := decide_eq_true sp
        replace sp := Lib.hid sp
        clear hl1 hl2 hs
        go_wp2_with
      (first
        | (go_at_call 17; (with_reducible refine (HC1.out _ _ _ y9 o9 T9).mono ?_); rintro e w21 ⟨c1, rfl, hc1, hb21⟩; have B21 := Bz.trans (hb21.mono Bz.size); have y21 := y9.below hb21; have o21 := o9.below hb21; have T21 := T9.below hb21; have L21 := L9.below hb21; have O21 := O9.below hb21; clear y9 o9 T9 L9 O9; obtain ⟨cL0_21, cL1_21, cL2_21, fL0_21, fL1_21, fL2_21, sL_21⟩ := L21.open3; obtain ⟨cO0_21, cO1_21, cO2_21, fO0_21, fO1_21, fO2_21, sO_21⟩ := O21.open3; have hc1 := Lib.hid hc1)
        | fail)
        go_meet
        rcases hc1.out with ⟨d1, g1⟩ | ⟨d1, g1⟩
        · exact ⟨_, rfl, .inl ⟨d1, sp.out, g1⟩, by assumption⟩
        · exact ⟨_, rfl, .inr ⟨d1, fun _ => g1⟩, by assumption⟩
      · have dsp : decide (0 < s) = false := decide_eq_false sp
        replace sp := Lib.hid sp
        clear hl1 hl2 hs
        go_wp2_with fail
        go_meet
        exact ⟨_, rfl, .inr ⟨rfl, fun h => absurd h (Int.not_lt.2 sp.out)⟩, Below.refl _ _⟩
    case rest =>
      obtain ⟨tt, rfl, hcs, hb⟩ := hcut
      generalize hwx : wc = w10 at *
      clear hwx
      have y10 := y9.below hb; have z10 := z9.below hb; have T10 := T9.below hb; have L10 := L9.below hb; have H10 := H9.below hb; have o10 := o9.below hb; have O10 := O9.below hb; have B10 := Bz9.trans (hb.mono Bz9.size)
      clear y9 z9 T9 L9 H9 o9 O9 Bz9 hb
      go_upto_if 85 with fail
      go_cut [86] (fun v w' => ∃ Ml el al nl kl, Blk w' b18 #[.bool false, .slice al nl kl, .int .i64 el] ∧ Num w' (.slice al nl kl) Ml ∧ SoOk neg true Ml el (dn : Int) b f ∧ Blk w' b19 #[.bool false, .slice az5 (digs BB k2).length kz5, .int .i64 f2] ∧ RdN w' (.slice az5 (digs BB k2).length kz5) (digs BB k2) ∧ RdN w' (.slice ao8 (digs BB 1).length ko8) (digs BB 1) ∧ Blk w' b20 #[.bool false, .slice ao8 (digs BB 1).length ko8, .int .i64 0] ∧ Below w6.heap.size w6 w')
      case first =>
        rcases hcs with ⟨rfl, sp, hle⟩ | ⟨rfl, hgt⟩
        · have hso := Lib.hid ((hl1.out sp).2.1 hle)
          clear hl1 hl2 hs sp hle
          obtain ⟨cL0, cL1, cL2, fL0, fL1, fL2, sL⟩ := L10.open3
          obtain ⟨i0, hi, hz0, hz1, hz2⟩ := info_parts infoU
          go_upto_region 19 with (first
            | (at_make; go_loud (refine wpList_make_full _ rfl (.const (.int .i64 4)) (.const (.int .i64 4)) 22 rfl w10.heap.size 41 i0 (.int .u64 0) 1 Tryd.underlying22 hi hz0 hz1 .i64 .i64 4 4 4 rfl rfl rfl rfl ?_ ?_ ?_ ?_; (any_goals (first | rfl | (rw [hz2]; omega) | (unfold maxLen; omega) | (with_reducible exact Nat.le_refl _))); intro w11 hown hgrow))
            | (at_builtin; go_loud (refine wpList_append_rd (N := fun _ => True) (xs := (madeCells (Value.int .u64 0).cells (4 * 1)).toList) (ys := [L64 1]) (n := 4) rfl (.tmp 86) (.tmp 87) 22 rfl w10.heap.size 41 i0 (.int .u64 0) 8 Tryd.underlying22 hi hz0 hz1 hz2 rfl rfl rfl (hown.alloc _) (rd_one (heap_alloc_new _ _) trivial) (by intro u hu; simp at hu; subst hu; rfl) (by unfold maxLen; simp) (by simp) (by have := hgrow.size; simp; omega) ?_; intro v1 w12 own1 hg1; have B12 : Below w10.heap.size w10 w12 := (((Below.refl _ _).grown hgrow (Nat.le_refl _) (by simp)).alloc hgrow.size _).grown hg1 (by have := hgrow.size; simp; omega) (fun k hk => by simp [Value.ownBlock, Act.eval] at hk; omega); obtain ⟨gg, cap, rfl, hgb⟩ := own_row5 own1 (by decide); have L12 := L10.below B12; obtain ⟨cL3, cL4, cL5, fL3, fL4, fL5, sL3⟩ := L12.open3))
            | fail)
          have L13 := L12.set3 (.bool false) (.slice (some ⟨gg, 0, none⟩) 5 cap) (.int .i64 (-256))
          have hlt : b18 < w10.heap.size := L10.1
          have hne5 : b18 ≠ gg := by omega
          rw [made_zero] at own1
          have own13 := (((own_set own1 hne5 0 (.bool false)).1 |> fun h => (own_set h hne5 1 (.slice (some ⟨gg, 0, none⟩) 5 cap)).1) |> fun h => (own_set h hne5 2 (.int .i64 (-256))).1)
          have F13 : Fr (fun x => x = b18 ∨ w10.heap.size ≤ x) w10 (((w12.setCell ⟨b18, 0, none⟩ (.bool false)).setCell ⟨b18, 1, none⟩ (.slice (some ⟨gg, 0, none⟩) 5 cap)).setCell ⟨b18, 2, none⟩ (.int .i64 (-256))) := (((Fr.of_below B12).setCell (p := ⟨b18, 0, none⟩) (.inl rfl) _).setCell (p := ⟨b18, 1, none⟩) (.inl rfl) _).setCell (p := ⟨b18, 2, none⟩) (.inl rfl) _
          clear cL0 cL1 cL2 fL0 fL1 fL2 sL cL3 cL4 cL5 fL3 fL4 fL5 sL3 own1 hg1 hown hgrow B12 L12
          generalize ((w12.setCell ⟨b18, 0, none⟩ (.bool false)).setCell ⟨b18, 1, none⟩ (.slice (some ⟨gg, 0, none⟩) 5 cap)).setCell ⟨b18, 2, none⟩ (.int .i64 (-256)) = w13 at *
          obtain ⟨cL0, cL1, cL2, fL0, fL1, fL2, sL⟩ := L13.open3
          have cg : w13.cell? ⟨gg, 0, none⟩ = some (.int .u64 0) := (own13.cellAt 0 (by decide)).trans rfl
          have fg := own13.frozenAt 0
          go_wp2_with fail
          go_meet
          have own14 := (own13.stored 0 (.int .u64 1)).1
          have F14 : Fr (fun x => x = b18 ∨ w10.heap.size ≤ x) w10 (w13.setCell ⟨gg, 0, none⟩ (.int .u64 1)) := F13.setCell (p := ⟨gg, 0, none⟩) (.inr hgb) _
          refine ⟨one256, -256, _, _, _, L13.otherj hne5 0 _, num_one256 own14, hso.out, H10.fr F14 (fun h => ?_), z10.fr2 L10 dcells F14, o10.fr2 L10 dcells F14, O10.fr F14 (fun h => ?_), B10.trans ((F14.below (B := w6.heap.size) B10.size (fun k hk h => ?_)).mono (Nat.le_refl _))⟩
          · rcases h with h | h
            · exact hne.out h.symm
            · exact absurd H10.1 (by omega)
          · rcases h with h | h
            · exact n20.out.1 h.symm
            · exact absurd O10.1 (by omega)
          · have := l18.out; have := B10.size; rcases h with h | h <;> omega
        · have hso : Hid (SoOk neg true k1 f1 (dn : Int) b f) := Lib.hid (by
            by_cases sp : 0 < s
            · exact (hl1.out sp).1 (hgt sp)
            · exact (hl2.out (by have := hsn.out; omega)).1)
          clear hl1 hl2 hs hgt
          go_wp2_with fail
          go_meet
          exact ⟨k1, f1, _, _, _, L10, y10.num (by have := hso.out.2.1; omega), hso.out, H10, z10, o10, O10, B10⟩
      case rest =>
        obtain ⟨Ml, el, al, nl, kl, L11, hNl, hsoL, H11, z11, o11, O11, hb⟩ := hcut
        generalize hwx : wc = w11 at *
        clear hwx
        have T11 := T6'.out.below hb
        clear y10 z10 T10 L10 H10 o10 O10 B10 HC1 HO1
        go_upto_region 20 with fail
        go_cut [100] (fun v w' => ∃ t : Bool, v = .bool t ∧ ((t = true ∧ s < 0 ∧ 1 ≤ qv ⟨false, k2, f2⟩) ∨ (t = false ∧ (s < 0 → qv ⟨false, k2, f2⟩ < 1))) ∧ Below w11.heap.size w11 w')
        case first =>
          have Bz : Below w11.heap.size w11 w11 := Below.refl _ _
          obtain ⟨cH0, cH1, cH2, fH0, fH1, fH2, sH⟩ := H11.open3
          obtain ⟨cO0, cO1, cO2, fO0, fO1, fO2, sO⟩ := O11.open3
          by_cases sp : s < 0
          · have dsp : decide (s < 0) = true := decide_eq_true sp
            replace sp := Lib.hid sp
            clear hl1 hl2 hs hsoL
            go_wp2_with
          (first
            | (go_at_call 17; (with_reducible refine (HC2.out _ _ _ z11 o11 T11).mono ?_); rintro e w31 ⟨c1, rfl, hc1, hb31⟩; have B31 := Bz.trans (hb31.mono Bz.size); have z31 := z11.below hb31; have o31 := o11.below hb31; have T31 := T11.below hb31; have H31 := H11.below hb31; have O31 := O11.below hb31; clear z11 o11 T11 H11 O11; obtain ⟨cH0_31, cH1_31, cH2_31, fH0_31, fH1_31, fH2_31, sH_31⟩ := H31.open3; obtain ⟨cO0_31, cO1_31, cO2_31, fO0_31, fO1_31, fO2_31, sO_31⟩ := O31.open3; have hc1 := Lib.hid hc1)
            | fail)
            go_meet
            rcases hc1.out with ⟨d1, g1⟩ | ⟨d1, g1⟩
            · exact ⟨_, rfl, .inl ⟨d1, sp.out, g1⟩, by assumption⟩
            · exact ⟨_, rfl, .inr ⟨d1, fun _ => g1⟩, by assumption⟩
          · have dsp : decide (s < 0) = false := decide_eq_false sp
            replace sp := Lib.hid sp
            clear hl1 hl2 hs hsoL
            go_wp2_with fail
            go_meet
            exact ⟨_, rfl, .inr ⟨rfl, fun h => absurd h (Int.not_lt.2 sp.out)⟩, Below.refl _ _⟩
        case rest =>
          obtain ⟨tt2, rfl, hcs2, hb2⟩ := hcut
          generalize hwx : wc = w12 at *
          clear hwx
          have z12 := z11.below hb2; have L12 := L11.below hb2; have H12 := H11.below hb2; have hN12 := hNl.below hb2; have B12 := hb.trans (hb2.mono hb.size)
          clear z11 T11 L11 H11 o11 O11 hNl hb hb2 HC2
          go_upto_if 100 with fail
          go_cut [101] (fun v w' => ∃ Mh eh ah nh kh, Blk w' b19 #[.bool false, .slice ah nh kh, .int .i64 eh] ∧ Num w' (.slice ah nh kh) Mh ∧ SoOk neg false Mh eh (dn : Int) b f ∧ Blk w' b18 #[.bool false, .slice al nl kl, .int .i64 el] ∧ Num w' (.slice al nl kl) Ml ∧ Below w6.heap.size w6 w')
          case first =>
            rcases hcs2 with ⟨rfl, sp, hge⟩ | ⟨rfl, hlt⟩
            · have hso := Lib.hid ((hl2.out sp).2.2 hge)
              clear hl1 hl2 hs sp hge hsoL
              obtain ⟨cH0, cH1, cH2, fH0, fH1, fH2, sH⟩ := H12.open3
              go_wp2_with fail
              go_meet
              have F14 : Fr (fun x => x = b19 ∨ w12.heap.size ≤ x) w12 ((((w12.setCell ⟨b19, 0, none⟩ (.bool false)).setCell ⟨b19, 1, none⟩ (.slice (some ⟨w12.heap.size, 0, none⟩) 4 4)).setCell ⟨b19, 2, none⟩ (.int .i64 (-256))).alloc (.cells #[.int .u64 18446744073709551615, .int .u64 18446744073709551615, .int .u64 18446744073709551615, .int .u64 18446744073709551615] 41 (0, 0))) := ((((Fr.refl _ w12).setCell (p := ⟨b19, 0, none⟩) (.inl rfl) _).setCell (p := ⟨b19, 1, none⟩) (.inl rfl) _).setCell (p := ⟨b19, 2, none⟩) (.inl rfl) _).alloc _
              refine ⟨les256, -256, _, _, _, (H12.set3 _ _ _).below (below_alloc _ _), num_les256 (by simp [World.setCell]), hso.out, L12.fr F14 (fun h => ?_), hN12.fr2 H12 dcells F14, B12.trans ((F14.below (B := w6.heap.size) B12.size (fun k hk h => ?_)).mono (Nat.le_refl _))⟩
              · rcases h with h | h
                · exact hne.out h
                · exact absurd L12.1 (by omega)
              · have := l19.out; have := B12.size; rcases h with h | h <;> omega
            · have hso : Hid (SoOk neg false k2 f2 (dn : Int) b f) := Lib.hid (by
                by_cases sp : s < 0
                · exact (hl2.out sp).2.1 (hlt sp)
                · exact (hl1.out (by have := hsn.out; omega)).2.2)
              clear hl1 hl2 hs hlt hsoL
              go_wp2_with fail
              go_meet
              exact ⟨k2, f2, _, _, _, H12, z12.num (by have := hso.out.2.1; omega), hso.out, L12, hN12, B12⟩
          case rest =>
            obtain ⟨Mh, eh, ah, nh, kh, H13, hNh, hsoH, L13, hN13, hb⟩ := hcut
            generalize hwx : wc = w13 at *
            clear hwx z12 L12 H12 hN12 B12 hl1 hl2 hs
            obtain ⟨cH0, cH1, cH2, fH0, fH1, fH2, sH⟩ := H13.open3
            obtain ⟨cL0, cL1, cL2, fL0, fL1, fL2, sL⟩ := L13.open3
            have HT1 := Lib.hid (fun w v (h : Num w v Ml) (hT : Tab w) => To_so (more := true) h hT hdir.out.1 hdir.out.2 hsoL)
            have HT2 := Lib.hid (fun w v (h : Num w v Mh) (hT : Tab w) => To_so (more := false) h hT hdir.out.1 hdir.out.2 hsoH)
            have hne' := hne.out
            have hne2 : b19 ≠ b18 := fun h => hne' h.symm
            clear hsoL hsoH
            go_upto_region 24 with fail
            have L14 := ((L13.p0 (.bool neg)).otherj hne' 0 (.bool neg))
            have H14 := ((H13.otherj hne2 0 (.bool neg)).p0 (.bool neg))
            have n14 := ((hN13.setj L13 dcells 0 (.bool neg)).setj (H13.otherj hne2 0 (.bool neg)) dcells 0 (.bool neg))
            have m14 := ((hNh.setj L13 dcells 0 (.bool neg)).setj (H13.otherj hne2 0 (.bool neg)) dcells 0 (.bool neg))
            have B14 : Below w6.heap.size w6 ((w13.setCell ⟨b18, 0, none⟩ (.bool neg)).setCell ⟨b19, 0, none⟩ (.bool neg)) := below_set (below_set hb l18.out _) l19.out _
            have T14 := T6'.out.below B14
            clear cH0 cH1 cH2 fH0 fH1 fH2 sH cL0 cL1 cL2 fL0 fL1 fL2 sL H13 L13 hN13 hNh hb
            generalize (w13.setCell ⟨b18, 0, none⟩ (.bool neg)).setCell ⟨b19, 0, none⟩ (.bool neg) = w14 at *
            have BB14 := B6'.out.trans (B14.mono B6'.out.size)
            obtain ⟨cH0, cH1, cH2, fH0, fH1, fH2, sH⟩ := H14.open3
            obtain ⟨cL0, cL1, cL2, fL0, fL1, fL2, sL⟩ := L14.open3
            go_wp2_with
          (first
            | (go_at_call 18; (with_reducible refine (HT1.out _ _ n14 T14).mono ?_); rintro e w41 ⟨rfl, hb41⟩; have B41 := BB14.trans (hb41.mono BB14.size); have n41 := n14.below hb41; have m41 := m14.below hb41; have T41 := T14.below hb41; have L41 := L14.below hb41; have H41 := H14.below hb41; clear n14 m14 T14 L14 H14; obtain ⟨cL0_41, cL1_41, cL2_41, fL0_41, fL1_41, fL2_41, sL_41⟩ := L41.open3; obtain ⟨cH0_41, cH1_41, cH2_41, fH0_41, fH1_41, fH2_41, sH_41⟩ := H41.open3)
            | (go_at_call 18; (with_reducible refine (HT2.out _ _ m41 T41).mono ?_); rintro e w42 ⟨rfl, hb42⟩; have B42 := B41.trans (hb42.mono B41.size); have n42 := n41.below hb42; have m42 := m41.below hb42; have T42 := T41.below hb42; have L42 := L41.below hb42; have H42 := H41.below hb42; clear n41 m41 T41 L41 H41; clear cL0_41 cL1_41 cL2_41 fL0_41 fL1_41 fL2_41 sL_41; obtain ⟨cL0_42, cL1_42, cL2_42, fL0_42, fL1_42, fL2_42, sL_42⟩ := L42.open3; clear cH0_41 cH1_41 cH2_41 fH0_41 fH1_41 fH2_41 sH_41; obtain ⟨cH0_42, cH1_42, cH2_42, fH0_42, fH1_42, fH2_42, sH_42⟩ := H42.open3)
            | fail)
            all_goals
              go_ret
              exact ⟨rfl, by assumption⟩

end Go.Proofs.YtflkemcoomgoiaaDoor.PBSo
