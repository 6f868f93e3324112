/- ExactSo returns true and leaves what was there: the walk (under way). Conditions: math/bits' table stands in its variable. -/
import Derived.Test.YtabdmnjdmnnejaaDoorEx9
import Derived.Test.YtabdmnjdmnnejaaDoorMulD
import Derived.Test.YtabdmnjdmnnejaaDoorSoLaw2
import Derived.Test.YtabdmnjdmnnejaaDoorRatWay
namespace Go.Proofs.YtabdmnjdmnnejaaDoor.PESo
set_option maxRecDepth 100000
open Go.RowKit Go.Proofs.YtabdmnjdmnnejaaDoor
set_option linter.unusedVariables false
set_option linter.unusedSimpArgs false

theorem getOf {L : List Oper} {k : Nat} {o : Oper} {r : List Oper} (h : L.drop k = o :: r) : (L.toArray)[k]? = some o := by
  rw [List.getElem?_toArray]
  have h2 : (L.drop k)[0]? = some o := by rw [h]; rfl
  rwa [List.getElem?_drop, Nat.add_zero] at h2
theorem own_unit {W : World} {B base : Nat} {E : TypeId} {u : Value} (h : W.heap[B]? = some (.cells #[u] E (0, 0))) (hb : base ≤ B) : W.ownsRow base E 1 (.slice (some ⟨B, 0, none⟩) 1 1) 1 [u] :=
  ⟨rfl, .inr ⟨B, 1, #[u], rfl, hb, h, Nat.le_refl _, by decide, rfl, rfl⟩⟩

set_option maxRecDepth 100000 in
set_option maxHeartbeats 8000000 in
theorem walk (ri ei mi ki ti : Int) (w : World) (wr : (Lit.int .u32 ri).wf = true) (we : (Lit.int .i16 ei).wf = true) (wm : (Lit.int .i8 mi).wf = true) (wk : (Lit.int .u8 ki).wf = true) (wt : (Lit.int .u8 ti).wf = true) (hT : Tab w) :
    Calls Tryd.prog 6 #[.int .u32 ri, .int .i16 ei, .int .i8 mi, .int .u8 ki, .int .u8 ti] w fun e w' => e = .returned (.bool true) ∧ Below w.heap.size w w' := by
  have h1 : 0 ≤ ri ∧ ri ≤ 4294967295 := by simpa [Lit.wf, IntKind.min, IntKind.max, IntKind.bits, IntKind.signed] using wr
  have h2 : -32768 ≤ ei ∧ ei ≤ 32767 := by simpa [Lit.wf, IntKind.min, IntKind.max, IntKind.bits, IntKind.signed] using we
  have h3 : -128 ≤ mi ∧ mi ≤ 127 := by simpa [Lit.wf, IntKind.min, IntKind.max, IntKind.bits, IntKind.signed] using wm
  have h4 : 0 ≤ ki ∧ ki ≤ 255 := by simpa [Lit.wf, IntKind.min, IntKind.max, IntKind.bits, IntKind.signed] using wk
  have h5 : 0 ≤ ti ∧ ti ≤ 255 := by simpa [Lit.wf, IntKind.min, IntKind.max, IntKind.bits, IntKind.signed] using wt
  clear wr we wm wk wt
  by_cases r0 : ri = 0
  · subst r0
    go_enter Tryd.func6, Tryd.ntmps6
    go_wp2_with
    (first
      | (go_at_call 7; (with_reducible refine (alive11_any hT).mono ?_); rintro e w1 ⟨rfl, hb1⟩; have B1 := hb1; have T1 := hT.below hb1; clear hT)
      | fail)
    all_goals
      go_ret
      exact ⟨rfl, by assumption⟩
  have rb : (ri == 0) = false := beq_eq_false_iff_ne.2 r0
  have cr : IntKind.u64.wrap ri = ri := by rw [IntKind.wrap_u64]; omega
  have ce : IntKind.i64.wrap ei = ei := by rw [IntKind.wrap_i64]; omega
  have cm : IntKind.i64.wrap mi = mi := by rw [IntKind.wrap_i64]; omega
  have ck : IntKind.i64.wrap ki = ki := by rw [IntKind.wrap_i64]; omega
  have ct : IntKind.i64.wrap ti = ti := by rw [IntKind.wrap_i64]; omega
  obtain ⟨kr, hkr⟩ : ∃ x, ki.tmod 12 = x := ⟨_, rfl⟩
  obtain ⟨tr, htr⟩ : ∃ x, ti.tmod 5 = x := ⟨_, rfl⟩
  obtain ⟨i, hi⟩ : ∃ x, mi.tmod 40 = x := ⟨_, rfl⟩
  obtain ⟨E0, hE0⟩ : ∃ x, ei.tmod 40 = x := ⟨_, rfl⟩
  obtain ⟨xr, hxr⟩ : ∃ x, ri.tmod 4096 = x := ⟨_, rfl⟩
  have bk : 0 ≤ kr ∧ kr < 12 := by rw [← hkr, Int.tmod_eq_emod_of_nonneg h4.1]; omega
  have bt : 0 ≤ tr ∧ tr < 5 := by rw [← htr, Int.tmod_eq_emod_of_nonneg h5.1]; omega
  have bx : 0 ≤ xr ∧ xr < 4096 := by rw [← hxr, Int.tmod_eq_emod_of_nonneg h1.1]; omega
  have bi : i.natAbs ≤ 39 := by rw [← hi, Int.natAbs_tmod]; exact Nat.le_of_lt_succ (Nat.mod_lt _ (by decide))
  have bE : E0.natAbs ≤ 39 := by rw [← hE0, Int.natAbs_tmod]; exact Nat.le_of_lt_succ (Nat.mod_lt _ (by decide))
  obtain ⟨X0, rfl⟩ : ∃ n : Nat, xr = n := ⟨xr.toNat, by omega⟩
  obtain ⟨N, hN⟩ : ∃ n : Nat, 1 + kr = n := ⟨(1 + kr).toNat, by omega⟩
  obtain ⟨T1, hT1⟩ : ∃ n : Nat, 1 + tr = n := ⟨(1 + tr).toNat, by omega⟩
  have bN : 1 ≤ N ∧ N ≤ 12 := by omega
  have bT : 1 ≤ T1 ∧ T1 ≤ 5 := by omega
  have ci : IntKind.i64.wrap i = i := by rw [IntKind.wrap_i64]; omega
  have cE : IntKind.i64.wrap E0 = E0 := by rw [IntKind.wrap_i64]; omega
  have cX : IntKind.u64.wrap (X0 : Int) = (X0 : Int) := by rw [IntKind.wrap_u64]; omega
  have cN : IntKind.i64.wrap (1 + kr) = (N : Int) := by rw [IntKind.wrap_i64]; omega
  have cT : IntKind.i64.wrap (1 + tr) = (T1 : Int) := by rw [IntKind.wrap_i64]; omega
  have cx2 : IntKind.i64.wrap kr = kr := by rw [IntKind.wrap_i64]; omega
  have cx3 : IntKind.i64.wrap tr = tr := by rw [IntKind.wrap_i64]; omega
  have sX0 : bitN X0 ≤ 12 := bitN_le.2 (by omega)
  obtain ⟨⟨n', X, E⟩, ed⟩ : ∃ d, bareD ⟨false, X0, E0⟩ = d := ⟨_, rfl⟩
  obtain ⟨hf, -⟩ := bareD_fits ed (by omega) (by omega) (by omega)
  have HMK := Lib.hid (fun w v (h : RdN w v [X0]) (hT : Tab w) => Make_ok (h.num1 (by have hBB : BB = 18446744073709551616 := rfl; omega)) hT (by omega) (by omega) ed hf)
  by_cases hX0 : X0 = 0
  · have e0 := hX0
    subst e0
    rw [bareD_zero rfl] at ed
    injection ed with g1 g2 g3
    subst g1; subst g2; subst g3
    have HS := Lib.hid (fun w v (h : Num w v 0) => Sign_n (neg := false) (E := 0) (s := 0) h (by unfold signD; simp))
    clear hN hT1 bk bt bx
    go_enter Tryd.func6, Tryd.ntmps6
    go_wp2_with
    (first
      | (go_at_call 7; (with_reducible refine (alive11_any hT).mono ?_); rintro e w1 ⟨rfl, hb1⟩; have B1 := hb1; have T1 := hT.below hb1; clear hT)
      | (go_at_call 27; (with_reducible refine (HMK.out _ _ ?_ (T1.below (below_alloc _ _))).mono ?_); (exact rd_one (heap_alloc_new _ _) trivial); rintro e w2 ⟨vx2, rfl, x2, hb2⟩; have hb2' := (below_a hb2); have B2 := B1.trans (hb2'.mono B1.size); have T2 := T1.below hb2'; clear T1; obtain ⟨ax2, kx2, rfl, -⟩ := x2.view; try simp only [List.length_nil] at x2)
      | (go_at_call 18; (with_reducible refine (HS.out _ _ ((x2.below (below_alloc _ _)).num (by rw [bitN_zero]; omega))).mono ?_); rintro e w3 ⟨rfl, hb3⟩; have hb3' := (below_a hb3); have B3 := B2.trans (hb3'.mono B2.size); have T3 := T2.below hb3'; have x3 := x2.below hb3'; clear T2 x2)
      | fail)
    all_goals
      go_ret
      exact ⟨rfl, by assumption⟩
  have hXn : X ≠ 0 := fun h => by
    have := (bareD_m_zero ⟨false, X0, E0⟩).1 (by rw [ed]; exact h)
    exact hX0 this
  have hodd := bareD_oddM ed hXn
  have sX : bitN X ≤ 12 := Nat.le_trans (bareD_bits ed) sX0
  have hn : n' = false ∧ E.natAbs ≤ 60 := by
    rw [bareD_pos (show (⟨false, X0, E0⟩ : Dn).m ≠ 0 from hX0)] at ed
    injection ed with g1 g2 g3
    have hl := low2_lt (n := X0) hX0
    have hc : cutE E0 = E0 := by unfold cutE; omega
    dsimp only at g3
    rw [hc] at g3
    exact ⟨g1.symm, by omega⟩
  obtain ⟨rfl, rE⟩ := hn
  have HS := Lib.hid (fun w v (h : Num w v X) => Sign_n (neg := false) (E := E) (s := 1) h (by unfold signD; rw [if_neg hXn]; rfl))
  have HO := Lib.hid (fun w (hT : Tab w) => show Calls Tryd.prog 20 #[.int .i64 1] w _ from Of_n (n := 1) (by decide) hT (show bareD ⟨false, 1, 0⟩ = ⟨false, 1, 0⟩ from bareD_odd (by decide) (by decide) (by decide)))
  have bj : ∀ j : Nat, j ≤ 12 → bitN (X ^ j) ≤ 145 ∧ X ^ j % 2 = 1 ∧ (E * (j : Int)).natAbs ≤ 720 := fun j hj => by
    have h1 := bitN_pow_le X j
    have h2 : bitN X * j ≤ 12 * 12 := Nat.mul_le_mul sX hj
    refine ⟨by omega, pow_odd hodd j, ?_⟩
    rw [Int.natAbs_mul, Int.natAbs_natCast]
    exact Nat.mul_le_mul rE hj
  have qj : ∀ j : Nat, j ≤ 12 → bareD ⟨false, X ^ j, E * (j : Int)⟩ = ⟨false, X ^ j, E * (j : Int)⟩ := fun j hj => by
    obtain ⟨-, b2, b3⟩ := bj j hj
    exact bareD_odd b2 (by omega) (by omega)
  have fit : ∀ x : Int, x.natAbs ≤ 2000 → fitsE x = true := fun x hx => by unfold fitsE; rw [Bool.and_eq_true]; exact ⟨decide_eq_true (by omega), decide_eq_true (by omega)⟩
  have qX : bareD ⟨false, X, E⟩ = ⟨false, X, E⟩ := bareD_odd hodd (by omega) (by omega)
  have HML : Hid (∀ (j : Nat) (w : World) v u, j < 12 → RdN w v (digs BB (X ^ j)) → RdN w u (digs BB X) → Tab w → Calls Tryd.prog 28 #[.agg #[.bool false, v, .int .i64 (E * (j : Int))], .agg #[.bool false, u, .int .i64 E]] w (fun e w' => ∃ v, e = .returned (.tuple #[.agg #[.bool false, v, .int .i64 (E * ((j + 1 : Nat) : Int))], .int .i64 0]) ∧ RdN w' v (digs BB (X ^ (j + 1))) ∧ Below w.heap.size w w')) := Lib.hid (fun j w v u hj h k hT => by
    obtain ⟨b1, b2, b3⟩ := bj j (by omega)
    obtain ⟨b4, b5, b6⟩ := bj (j + 1) (by omega)
    exact Mul_d (h.num (by omega)) (k.num (by omega)) hT (by omega) (by omega) (qj j (by omega)) (fit _ (by omega)) qX (fit _ (by omega)) (by omega) (by omega) (Nat.pow_succ X j).symm (show E * (j : Int) + E = E * ((j + 1 : Nat) : Int) by rw [Int.natCast_add, Int.mul_add]; simp) rfl (qj (j + 1) (by omega)) (fit _ (by omega)))
  obtain ⟨ok, P, F, hR⟩ := PowR.total (X := X) (E := E) (i := i) hodd
  obtain ⟨g, hg⟩ : ∃ g, Nat.gcd i.natAbs N = g := ⟨_, rfl⟩
  have hg0 : 1 ≤ g := by
    rcases Nat.eq_zero_or_pos g with h0 | h0
    · have := Nat.eq_zero_of_gcd_eq_zero_right (hg.trans h0); omega
    · exact h0
  obtain ⟨m, hm⟩ : ∃ m : Int, i = m * (g : Int) := by
    obtain ⟨m, hm⟩ := Int.ofNat_dvd_left.2 (show g ∣ i.natAbs from hg ▸ Nat.gcd_dvd_left _ _)
    exact ⟨m, by rw [Int.mul_comm]; exact hm⟩
  obtain ⟨k, hk⟩ : ∃ k : Nat, N = k * g := by
    obtain ⟨k, hk⟩ := (show g ∣ N from hg ▸ Nat.gcd_dvd_right _ _)
    exact ⟨k, by rw [Nat.mul_comm]; exact hk⟩
  have hk0 : 1 ≤ k := by
    rcases Nat.eq_zero_or_pos k with h0 | h0
    · rw [h0, Nat.zero_mul] at hk; omega
    · exact h0
  have hXN : X ^ N ≠ 0 := by have := (bj N (by omega)).2.1; omega
  have sXN := (bj N (by omega)).1
  have hRm : PowR X E (m * (g : Int)) ((1 : Nat) : Int) ok P F := hm ▸ hR
  have agree : ∀ {ok1 P1 F1}, PowR (X ^ N) (E * (N : Int)) m (k : Int) ok1 P1 F1 → ok1 = ok ∧ P1 = P ∧ F1 = F := fun h => by
    rw [hk] at h
    exact PowR.agree hk0 hg0 h hRm
  have HPA : Hid (∀ (w : World) v, RdN w v (digs BB (X ^ N)) → Tab w → Calls Tryd.prog 9 #[.agg #[.bool false, v, .int .i64 (E * (N : Int))], .agg #[.int .i64 i, .int .i64 (N : Int)]] w (fun e w' => ∃ u, e = .returned (.tuple #[.agg #[.bool false, u, .int .i64 F], .bool ok, .int .i64 0]) ∧ RdN w' u (digs BB P) ∧ Below w.heap.size w w')) := Lib.hid (fun w v h hT => by
    have b3 := (bj N (by omega)).2.2
    refine (Power_ok (m := m) (k := k) (g := g) (h.num (by omega)) hT (by omega) (by omega) (qj N (by omega)) (fit _ (by omega)) hXN (by omega) (by omega) (by omega) (by omega) (by omega) (by rw [Int.toNat_natCast]; exact hg) hm (by rw [hk, Int.natCast_mul])).mono ?_
    rintro e w' ⟨ok1, P1, F1, a, n, kk, rfl, hp, hrd, hb⟩
    obtain ⟨rfl, rfl, rfl⟩ := agree hp
    exact ⟨_, rfl, hrd, hb⟩)
  have HPB : Hid (∀ (w : World) v, RdN w v (digs BB X) → Tab w → Calls Tryd.prog 9 #[.agg #[.bool false, v, .int .i64 E], .agg #[.int .i64 i, .int .i64 1]] w (fun e w' => ∃ u, e = .returned (.tuple #[.agg #[.bool false, u, .int .i64 F], .bool ok, .int .i64 0]) ∧ RdN w' u (digs BB P) ∧ Below w.heap.size w w')) := Lib.hid (fun w v h hT => by
    refine (Power_ok (m := i) (k := 1) (g := 1) (h.num (by omega)) hT (by omega) (by omega) qX (fit _ (by omega)) hXn (by omega) (by omega) (by omega) (by decide) (by decide) (Nat.gcd_one_right _) (by omega) (by decide)).mono ?_
    rintro e w' ⟨ok1, P1, F1, a, n, kk, rfl, hp, hrd, hb⟩
    obtain ⟨rfl, rfl, rfl⟩ := hp.uniq (Nat.le_refl 1) hR
    exact ⟨_, rfl, hrd, hb⟩)
  obtain ⟨it, hit⟩ : ∃ x, i * (T1 : Int) = x := ⟨_, rfl⟩
  obtain ⟨nt, hnt⟩ : ∃ x : Nat, N * T1 = x := ⟨_, rfl⟩
  have rit : it.natAbs ≤ 39 * 5 := by rw [← hit, Int.natAbs_mul, Int.natAbs_natCast]; exact Nat.mul_le_mul bi bT.2
  have rnt : nt ≤ 12 * 5 := by rw [← hnt]; exact Nat.mul_le_mul bN.2 bT.2
  have rnt1 : 1 ≤ nt := by rw [← hnt]; exact Nat.mul_le_mul bN.1 bT.1
  have hnt2 : (N : Int) * (T1 : Int) = (nt : Int) := by rw [← hnt, Int.natCast_mul]
  have cit : IntKind.i64.wrap (i * (T1 : Int)) = it := by rw [hit, IntKind.wrap_i64]; omega
  have cnt : IntKind.i64.wrap ((N : Int) * (T1 : Int)) = (nt : Int) := by rw [hnt2, IntKind.wrap_i64]; omega
  have HPC : Hid (∀ (w : World) v, RdN w v (digs BB (X ^ N)) → Tab w → Calls Tryd.prog 9 #[.agg #[.bool false, v, .int .i64 (E * (N : Int))], .agg #[.int .i64 it, .int .i64 (nt : Int)]] w (fun e w' => ∃ u, e = .returned (.tuple #[.agg #[.bool false, u, .int .i64 F], .bool ok, .int .i64 0]) ∧ RdN w' u (digs BB P) ∧ Below w.heap.size w w')) := Lib.hid (fun w v h hT => by
    have b3 := (bj N (by omega)).2.2
    refine (Power_ok (m := m) (k := k) (g := g * T1) (h.num (by omega)) hT (by omega) (by omega) (qj N (by omega)) (fit _ (by omega)) hXN (by omega) (by omega) (by omega) (by omega) (by omega) (by rw [Int.toNat_natCast, ← hit, ← hnt, Int.natAbs_mul, Int.natAbs_natCast, Nat.gcd_mul_right, hg]) (by rw [← hit, hm, Int.natCast_mul, Int.mul_assoc]) (by rw [← hnt, hk, Int.natCast_mul, Int.natCast_mul, Int.natCast_mul, Int.mul_assoc])).mono ?_
    rintro e w' ⟨ok1, P1, F1, a, n, kk, rfl, hp, hrd, hb⟩
    obtain ⟨rfl, rfl, rfl⟩ := agree hp
    exact ⟨_, rfl, hrd, hb⟩)
  have hPF : (P = 0 ∧ F = 0) ∨ (P % 2 = 1 ∧ F.natAbs ≤ 1100 ∧ bitN P ≤ 54) := by
    rcases hR with ⟨-, -, rfl, rfl⟩ | ⟨-, -, hb, hp, -⟩ | ⟨-, -, rfl, rfl, -⟩
    · exact .inr ⟨rfl, by decide, by rw [bitN_one]; omega⟩
    · have h1 := brk_range (by omega) hb
      have h2 := brk_bits (by omega) hb
      exact .inr ⟨hp, by omega, h2⟩
    · exact .inl ⟨rfl, rfl⟩
  have HCC : Hid (∀ (w : World) v u, RdN w v (digs BB P) → RdN w u (digs BB P) → Tab w → Calls Tryd.prog 19 #[.agg #[.bool false, v, .int .i64 F], .agg #[.bool false, u, .int .i64 F]] w (fun e w' => e = .returned (.int .i64 0) ∧ Below w.heap.size w w')) := Lib.hid (fun w v u h k hT => by
    rcases hPF with ⟨rfl, rfl⟩ | ⟨h1, h2, h3⟩
    · exact Cmp_n (h.num (by rw [bitN_zero]; omega)) (k.num (by rw [bitN_zero]; omega)) hT (by decide) (by decide) (by decide) (by decide) (bareD_zero rfl) (bareD_zero rfl) (by rw [bitN_zero]; omega) (by rw [bitN_zero]; omega) (by decide)
    · exact Cmp_n (h.num (by omega)) (k.num (by omega)) hT (by omega) (by omega) (by omega) (by omega) (bareD_odd h1 (by omega) (by omega)) (bareD_odd h1 (by omega) (by omega)) (by omega) (by omega) (cmpD_self (by omega)))
  have hIS : ok = true → (∃ e1 is1, (e1 = 2 ∧ is1 = false ∨ e1 = 0 ∧ is1 = true) ∧ Hid (∀ (w : World) v u, RdN w v (digs BB (X ^ N)) → RdN w u (digs BB P) → Tab w → Calls Tryd.prog 29 #[.agg #[.bool false, v, .int .i64 (E * (N : Int))], .agg #[.int .i64 i, .int .i64 (N : Int)], .agg #[.bool false, u, .int .i64 F]] w (fun r w' => r = .returned (.tuple #[.bool is1, .int .i64 e1]) ∧ Below w.heap.size w w'))) ∧
      (∃ e2 : Int, (e2 = 2 ∨ e2 = 0) ∧ Hid (∀ (w : World) v u, RdN w v (digs BB (X ^ N)) → RdN w u (1 :: digs BB P) → Tab w → Calls Tryd.prog 29 #[.agg #[.bool false, v, .int .i64 (E * (N : Int))], .agg #[.int .i64 i, .int .i64 (N : Int)], .agg #[.bool false, u, .int .i64 (F - 64)]] w (fun r w' => r = .returned (.tuple #[.bool false, .int .i64 e2]) ∧ Below w.heap.size w w'))) := fun hok => by
    obtain ⟨c1, c2, c3⟩ := bj N (by omega)
    have hRa : Raise X E i P F := by
      rcases hR with ⟨h0, -, rfl, rfl⟩ | ⟨-, -, -, -, r, f, a, b, c⟩ | ⟨-, h, -⟩
      · exact ⟨by rw [h0, Int.mul_zero], .inl ⟨by omega, by rw [h0]; rfl⟩⟩
      · rw [show ((1 : Nat) : Int).toNat = 1 from rfl, Nat.pow_one] at a
        rw [show ((1 : Nat) : Int) = 1 from rfl, Int.mul_one] at b
        subst a; subst b
        exact c
      · rw [hok] at h; exact absurd h (by decide)
    obtain ⟨d1, d2, d3⟩ : P % 2 = 1 ∧ F.natAbs ≤ 1100 ∧ bitN P ≤ 54 := by
      rcases hPF with ⟨h1, -⟩ | h
      · have := hRa.odd hodd; omega
      · exact h
    have hBB : BB = 18446744073709551616 := rfl
    have sgn : ∀ (M : Nat) (G : Int), M % 2 = 1 → signD ⟨false, M, G⟩ = 1 := fun M G h => by unfold signD; rw [if_neg (show (⟨false, M, G⟩ : Dn).m ≠ 0 by show M ≠ 0; omega)]; rfl
    obtain ⟨o1, o2, o3⟩ : (1 + BB * P) % 2 = 1 ∧ bitN (1 + BB * P) ≤ 120 ∧ bitN P ≤ 54 := by
      refine ⟨by rw [hBB]; omega, bitN_le.2 ?_, d3⟩
      have hp := bitN_lt P
      have h2 : 2 ^ bitN P ≤ 2 ^ 54 := Nat.pow_le_pow_right (by decide) d3
      rw [hBB]
      have h3 : (2 : Nat) ^ 120 = 1329227995784915872903807060280344576 := by decide
      rw [h3]
      omega
    have qP : bareD ⟨false, P, F⟩ = ⟨false, P, F⟩ := bareD_odd d1 (by omega) (by omega)
    have qP2 : bareD ⟨false, 1 + BB * P, F - 64⟩ = ⟨false, 1 + BB * P, F - 64⟩ := bareD_odd o1 (by omega) (by omega)
    refine ⟨?_, ?_⟩
    · obtain ⟨c, e, hc, hcase⟩ := cmp_way (m := i) (k := (N : Int)) (qj N (by omega)) qP (by omega) (by omega) (by omega) (by omega) (.inl c2) (.inl d1) (sgn _ _ c2) (sgn _ _ d1) (fit _ (by omega)) (fit _ (by omega)) rfl rfl
      have key : (e = 2 ∧ c = 0) ∨ (e = 0 ∧ c = 0) := by
        rcases hcase with ⟨hbad, -⟩ | ⟨-, hh⟩
        · exfalso
          rcases hbad with h | h | h | h | h
          · exact absurd h (by decide)
          · exact absurd h (by decide)
          · exact absurd h (by decide)
          · exact absurd h (by decide)
          · omega
        · rcases hh with ⟨-, h1, h2⟩ | ⟨⟨-, -, h1, -⟩, k1, K, ⟨h2, h3, -⟩, h4, h5⟩
          · exact .inl ⟨h2, h1⟩
          · obtain rfl : N = K := by omega
            obtain ⟨y1, y2⟩ := so_yes (N := N) hRa h2
            rcases Int.lt_or_le i 0 with hi0 | hi0
            · exact .inr ⟨h1, by rw [← h5 hi0]; exact y2 hi0⟩
            · exact .inr ⟨h1, by rw [← h4 hi0]; exact y1 hi0⟩
      rcases key with ⟨rfl, rfl⟩ | ⟨rfl, rfl⟩
      · exact ⟨2, false, .inl ⟨rfl, rfl⟩, Lib.hid (fun w v u h k hT => Is_n (h.num (by omega)) (k.num (by omega)) hT (by omega) (by omega) (by omega) (by omega) hc rfl)⟩
      · exact ⟨0, true, .inr ⟨rfl, rfl⟩, Lib.hid (fun w v u h k hT => Is_n (h.num (by omega)) (k.num (by omega)) hT (by omega) (by omega) (by omega) (by omega) hc rfl)⟩
    · obtain ⟨c, e, hc, hcase⟩ := cmp_way (m := i) (k := (N : Int)) (qj N (by omega)) qP2 (by omega) (by omega) (by omega) (by omega) (.inl c2) (.inl o1) (sgn _ _ c2) (sgn _ _ o1) (fit _ (by omega)) (fit _ (by omega)) rfl rfl
      have key : (e = 2) ∨ (e = 0 ∧ c ≠ 0) := by
        rcases hcase with ⟨hbad, -⟩ | ⟨-, hh⟩
        · exfalso
          rcases hbad with h | h | h | h | h
          · exact absurd h (by decide)
          · exact absurd h (by decide)
          · exact absurd h (by decide)
          · exact absurd h (by decide)
          · omega
        · rcases hh with ⟨-, h1, h2⟩ | ⟨⟨-, -, h1, -⟩, k1, K, ⟨h2, h3, -⟩, h4, h5⟩
          · exact .inl h2
          · obtain rfl : N = K := by omega
            obtain ⟨y1, y2⟩ := so_no (N := N) hRa h2 (by omega) hodd
            rcases Int.lt_or_le i 0 with hi0 | hi0
            · exact .inr ⟨h1, by rw [← h5 hi0]; exact y2 hi0⟩
            · exact .inr ⟨h1, by rw [← h4 hi0]; exact y1 hi0⟩
      have num2 : ∀ (w : World) u, RdN w u (1 :: digs BB P) → Num w u (1 + BB * P) := fun w u h => by
        have h2 := h.numl (Dig.cons (by decide) (dig_digs BB_two P)) (by have h3 : (digs BB P).length ≤ 100 := digs_short (k := 100) (by omega); simp; omega)
        rwa [show val BB (1 :: digs BB P) = 1 + BB * P by simp only [val]; rw [val_digs BB_two]] at h2
      rcases key with rfl | ⟨rfl, hc0⟩
      · exact ⟨2, .inl rfl, Lib.hid (fun w v u h k hT => Is_n (h.num (by omega)) (num2 _ _ k) hT (by omega) (by omega) (by omega) (by omega) hc rfl)⟩
      · exact ⟨0, .inr rfl, Lib.hid (fun w v u h k hT => Is_n (h.num (by omega)) (num2 _ _ k) hT (by omega) (by omega) (by omega) (by omega) hc (by rw [decide_eq_false hc0, Bool.and_false]))⟩
  have hIS' := Lib.hid hIS
  clear hIS
  have hR' := Lib.hid hR; have hPF' := Lib.hid hPF
  clear hR hRm agree hg hm hk hk0 hg0 hXN sXN hit hnt rit rnt rnt1 hnt2 hPF
  have bj' := Lib.hid bj; have qj' := Lib.hid qj; have fit' := Lib.hid fit; have qX' := Lib.hid qX; have hXn' := Lib.hid hXn; have hodd' := Lib.hid hodd; have rE' := Lib.hid rE
  have bN' := Lib.hid bN; have bT' := Lib.hid bT; have bi' := Lib.hid bi
  clear bj qj fit qX hXn hodd rE ed hf hX0 bN bT bi bE bk bt bx hN hT1
  go_enter Tryd.func6, Tryd.ntmps6
  go_upto_region 11 with
  (first
    | (go_at_call 7; (with_reducible refine (alive11_any hT).mono ?_); rintro e w1 ⟨rfl, hb1⟩; have B1 := hb1; have T1 := hT.below hb1; clear hT)
    | (go_at_call 27; (with_reducible refine (HMK.out _ _ ?_ (T1.below (below_alloc _ _))).mono ?_); (exact rd_one (heap_alloc_new _ _) trivial); rintro e w2 ⟨vx2, rfl, x2, hb2⟩; have hb2' := (below_a hb2); have B2 := B1.trans (hb2'.mono B1.size); have T2 := T1.below hb2'; clear T1; obtain ⟨ax2, kx2, rfl, -⟩ := x2.view; try simp only [List.length_nil] at x2)
    | (go_at_call 18; (with_reducible refine (HS.out _ _ ((x2.below (below_alloc _ _)).num (by omega))).mono ?_); rintro e w3 ⟨rfl, hb3⟩; have hb3' := (below_a hb3); have B3 := B2.trans (hb3'.mono B2.size); have T3 := T2.below hb3'; have x3 := x2.below hb3'; clear T2 x2; have Z3 := blk_new.below hb3; obtain ⟨cZ0_3, cZ1_3, cZ2_3, fZ0_3, fZ1_3, fZ2_3, sZ_3⟩ := Z3.open3)
    | (go_at_call 20; (with_reducible refine (HO.out _ T3).mono ?_); rintro e w4 ⟨vd4, rfl, d4, hb4⟩; have B4 := B3.trans (hb4.mono B3.size); have T4 := T3.below hb4; have x4 := x3.below hb4; have Z4 := Z3.below hb4; clear T3 x3 Z3; clear cZ0_3 cZ1_3 cZ2_3 fZ0_3 fZ1_3 fZ2_3 sZ_3; obtain ⟨cZ0_4, cZ1_4, cZ2_4, fZ0_4, fZ1_4, fZ2_4, sZ_4⟩ := Z4.open3; obtain ⟨ud4, rfl, d4⟩ := d4; obtain ⟨ad4, kd4, rfl, -⟩ := d4.view)
    | fail)
  have Y5 : Blk (w4.alloc (.cells #[.bool false, .slice ad4 (digs BB 1).length kd4, .int .i64 0] 32 (0, 0))) w4.heap.size #[.bool false, .slice ad4 (digs BB 1).length kd4, .int .i64 0] := blk_new
  have d5 := d4.below (below_alloc w4 (.cells #[.bool false, .slice ad4 (digs BB 1).length kd4, .int .i64 0] 32 (0, 0)))
  have x5 := x4.below (below_alloc w4 (.cells #[.bool false, .slice ad4 (digs BB 1).length kd4, .int .i64 0] 32 (0, 0)))
  have Z5 := Z4.below (below_alloc w4 (.cells #[.bool false, .slice ad4 (digs BB 1).length kd4, .int .i64 0] 32 (0, 0)))
  have T5 := T4.below (below_alloc w4 (.cells #[.bool false, .slice ad4 (digs BB 1).length kd4, .int .i64 0] 32 (0, 0)))
  have B5 := below_right B4 (.cells #[.bool false, .slice ad4 (digs BB 1).length kd4, .int .i64 0] 32 (0, 0))
  have neZ : w2.heap.size ≠ w4.heap.size := Nat.ne_of_lt Z4.1
  have leY : w.heap.size ≤ w4.heap.size := B4.size
  have tabY : 0 ≠ w4.heap.size := Nat.ne_of_lt T4.lt
  clear cZ0_4 cZ1_4 cZ2_4 fZ0_4 fZ1_4 fZ2_4 sZ_4 Z4 T4 B4 x4 d4 hb4
  obtain ⟨by5, hby⟩ : ∃ b, w4.heap.size = b := ⟨_, rfl⟩
  rw [hby] at Y5 neZ leY tabY
  simp only [hby]
  generalize w4.alloc (.cells #[.bool false, .slice ad4 (digs BB 1).length kd4, .int .i64 0] 32 (0, 0)) = w5 at *
  clear hby
  have start := Lib.hid (show ∃ (j : Nat) (a : Option Addr) (k : Nat), j = 0 ∧ Blk w5 by5 #[.bool false, .slice a (digs BB (X ^ j)).length k, .int .i64 (E * (j : Int))] ∧ RdN w5 (.slice a (digs BB (X ^ j)).length k) (digs BB (X ^ j)) from ⟨0, ad4, kd4, rfl, by rw [Nat.pow_zero]; simpa using Y5, by rw [Nat.pow_zero]; exact d5⟩)
  have st2 := Lib.hid (And.intro Z5 (And.intro x5 (And.intro T5 B5)))
  clear Y5 d5 Z5 x5 T5 B5
  go_wp2_with fail
  go_loopw [14, 16] (fun f i wr => ∃ (j : Nat) (a : Option Addr) (k : Nat), f = .int .i64 0 ∧ i = .int .i64 (j : Int) ∧ j ≤ N ∧ Blk wr by5 #[.bool false, .slice a (digs BB (X ^ j)).length k, .int .i64 (E * (j : Int))] ∧ RdN wr (.slice a (digs BB (X ^ j)).length k) (digs BB (X ^ j)) ∧ Blk wr w2.heap.size #[.bool false, .slice ax2 (digs BB X).length kx2, .int .i64 E] ∧ RdN wr (.slice ax2 (digs BB X).length kx2) (digs BB X) ∧ Tab wr ∧ Below w.heap.size w wr) (fun _ i _ => N - (intOf i).toNat)
  case atStart =>
    obtain ⟨j, a, k, rfl, s1, s2⟩ := start.out
    exact ⟨0, a, k, rfl, rfl, Nat.zero_le _, s1, s2, st2.out⟩
  case round =>
    obtain ⟨j, a, k, rfl, rfl, hjN, hY, hy, hZ, hx, hTT, hB⟩ := hrel
    clear start st2
    by_cases hlt : j < N
    · have dj : decide ((j : Int) < (N : Int)) = true := decide_eq_true (by omega)
      have dj2 : decide (j < N) = true := decide_eq_true hlt
      have hj12 : j < 12 := by have := bN'.out; omega
      have wj : IntKind.i64.wrap ((j : Int) + 1) = (j : Int) + 1 := by rw [IntKind.wrap_i64]; omega
      obtain ⟨cY0_0, cY1_0, cY2_0, fY0_0, fY1_0, fY2_0, sY_0⟩ := hY.open3
      obtain ⟨cZ0_0, cZ1_0, cZ2_0, fZ0_0, fZ1_0, fZ2_0, sZ_0⟩ := hZ.open3
      have hlt' := Lib.hid hlt
      clear hlt
      go_wp2_with
      (first
        | (go_at_call 28; (with_reducible refine (HML.out _ _ _ _ hj12 hy hx hTT).mono ?_); rintro e w21 ⟨vm, rfl, m21, hb21⟩; have B21 := hB.trans (hb21.mono hB.size); have y21 := hy.below hb21; have x21 := hx.below hb21; have T21 := hTT.below hb21; have Y21 := hY.below hb21; have Z21 := hZ.below hb21; clear hy hx hTT hY hZ; obtain ⟨cY0_21, cY1_21, cY2_21, fY0_21, fY1_21, fY2_21, sY_21⟩ := Y21.open3; obtain ⟨cZ0_21, cZ1_21, cZ2_21, fZ0_21, fZ1_21, fZ2_21, sZ_21⟩ := Z21.open3; obtain ⟨am21, km21, rfl, -⟩ := m21.view; try simp only [List.length_nil] at m21)
        | fail)
      go_round
      case rel => exact ⟨j + 1, am21, km21, rfl, rfl, by have := hlt'.out; omega, Y21.set3 _ _ _, m21.set3 Y21 dcells _ _ _, Z21.other3 neZ _ _ _, x21.set3 Y21 dcells _ _ _, T21.set3 tabY _ _ _, below_set3b B21 leY _ _ _⟩
      case measure =>
        have := hlt'.out
        show N - ((j : Int) + 1).toNat < N - ((j : Int)).toNat
        omega
    · obtain rfl : N = j := by omega
      have dj : decide ((N : Int) < (N : Int)) = false := decide_eq_false (by omega)
      clear hlt hjN
      obtain ⟨cY0_0, cY1_0, cY2_0, fY0_0, fY1_0, fY2_0, sY_0⟩ := hY.open3
      obtain ⟨cZ0_0, cZ1_0, cZ2_0, fZ0_0, fZ1_0, fZ2_0, sZ_0⟩ := hZ.open3
      go_upto_region 23 with
      (first
        | (go_at_call 9; (with_reducible refine (HPA.out _ _ hy hTT).mono ?_); rintro e w31 ⟨va, rfl, a31, hb31⟩; have B31 := hB.trans (hb31.mono hB.size); have y31 := hy.below hb31; have x31 := hx.below hb31; have T31 := hTT.below hb31; have Y31 := hY.below hb31; have Z31 := hZ.below hb31; clear hy hx hTT hY hZ; obtain ⟨cY0_31, cY1_31, cY2_31, fY0_31, fY1_31, fY2_31, sY_31⟩ := Y31.open3; obtain ⟨cZ0_31, cZ1_31, cZ2_31, fZ0_31, fZ1_31, fZ2_31, sZ_31⟩ := Z31.open3; obtain ⟨aa31, ka31, rfl, -⟩ := a31.view; try simp only [List.length_nil] at a31)
        | (go_at_call 9; (with_reducible refine (HPB.out _ _ (x31.below (below_alloc _ _)) (T31.below (below_alloc _ _))).mono ?_); rintro e w32 ⟨vb, rfl, b32, hb32⟩; have hb32' := (below_a hb32); have B32 := B31.trans (hb32'.mono B31.size); have y32 := y31.below hb32'; have x32 := x31.below hb32'; have T32 := T31.below hb32'; have Y32 := Y31.below hb32'; have Z32 := Z31.below hb32'; have a32 := a31.below hb32'; clear y31 x31 T31 Y31 Z31 a31; have S32 := blk_new.below hb32; clear cY0_31 cY1_31 cY2_31 fY0_31 fY1_31 fY2_31 sY_31; obtain ⟨cY0_32, cY1_32, cY2_32, fY0_32, fY1_32, fY2_32, sY_32⟩ := Y32.open3; clear cZ0_31 cZ1_31 cZ2_31 fZ0_31 fZ1_31 fZ2_31 sZ_31; obtain ⟨cZ0_32, cZ1_32, cZ2_32, fZ0_32, fZ1_32, fZ2_32, sZ_32⟩ := Z32.open3; obtain ⟨cS0_32, cS1_32, cS2_32, fS0_32, fS1_32, fS2_32, sS_32⟩ := S32.open3; obtain ⟨ab32, kb32, rfl, -⟩ := b32.view; try simp only [List.length_nil] at b32)
        | (go_at_call 9; (with_reducible refine (HPC.out _ _ (y32.below (below_alloc _ _)) (T32.below (below_alloc _ _))).mono ?_); rintro e w33 ⟨vc, rfl, c33, hb33⟩; have hb33' := (below_a hb33); have B33 := B32.trans (hb33'.mono B32.size); have y33 := y32.below hb33'; have x33 := x32.below hb33'; have T33 := T32.below hb33'; have Y33 := Y32.below hb33'; have Z33 := Z32.below hb33'; have a33 := a32.below hb33'; have S33 := S32.below hb33'; have b33 := b32.below hb33'; clear y32 x32 T32 Y32 Z32 a32 S32 b32; have V33 := blk_new.below hb33; clear cY0_32 cY1_32 cY2_32 fY0_32 fY1_32 fY2_32 sY_32; obtain ⟨cY0_33, cY1_33, cY2_33, fY0_33, fY1_33, fY2_33, sY_33⟩ := Y33.open3; clear cZ0_32 cZ1_32 cZ2_32 fZ0_32 fZ1_32 fZ2_32 sZ_32; obtain ⟨cZ0_33, cZ1_33, cZ2_33, fZ0_33, fZ1_33, fZ2_33, sZ_33⟩ := Z33.open3; clear cS0_32 cS1_32 cS2_32 fS0_32 fS1_32 fS2_32 sS_32; obtain ⟨cS0_33, cS1_33, cS2_33, fS0_33, fS1_33, fS2_33, sS_33⟩ := S33.open3; obtain ⟨cV0_33, cV1_33, cV2_33, fV0_33, fV1_33, fV2_33, sV_33⟩ := V33.open3; obtain ⟨ac33, kc33, rfl, -⟩ := c33.view; try simp only [List.length_nil] at c33)
        | (go_at_call 19; (with_reducible refine (HCC.out _ _ _ (a33.below (below_alloc _ _)) (b33.below (below_alloc _ _)) (T33.below (below_alloc _ _))).mono ?_); rintro e w34 ⟨rfl, hb34⟩; have hb34' := (below_a hb34); have B34 := B33.trans (hb34'.mono B33.size); have y34 := y33.below hb34'; have x34 := x33.below hb34'; have T34 := T33.below hb34'; have Y34 := Y33.below hb34'; have Z34 := Z33.below hb34'; have a34 := a33.below hb34'; have S34 := S33.below hb34'; have b34 := b33.below hb34'; have V34 := V33.below hb34'; have c34 := c33.below hb34'; clear y33 x33 T33 Y33 Z33 a33 S33 b33 V33 c33; have W34 := blk_new.below hb34; clear cY0_33 cY1_33 cY2_33 fY0_33 fY1_33 fY2_33 sY_33; obtain ⟨cY0_34, cY1_34, cY2_34, fY0_34, fY1_34, fY2_34, sY_34⟩ := Y34.open3; clear cZ0_33 cZ1_33 cZ2_33 fZ0_33 fZ1_33 fZ2_33 sZ_33; obtain ⟨cZ0_34, cZ1_34, cZ2_34, fZ0_34, fZ1_34, fZ2_34, sZ_34⟩ := Z34.open3; clear cS0_33 cS1_33 cS2_33 fS0_33 fS1_33 fS2_33 sS_33; obtain ⟨cS0_34, cS1_34, cS2_34, fS0_34, fS1_34, fS2_34, sS_34⟩ := S34.open3; clear cV0_33 cV1_33 cV2_33 fV0_33 fV1_33 fV2_33 sV_33; obtain ⟨cV0_34, cV1_34, cV2_34, fV0_34, fV1_34, fV2_34, sV_34⟩ := V34.open3; obtain ⟨cW0_34, cW1_34, cW2_34, fW0_34, fW1_34, fW2_34, sW_34⟩ := W34.open3)
        | (go_at_call 19; (with_reducible refine (HCC.out _ _ _ a34 c34 T34).mono ?_); rintro e w35 ⟨rfl, hb35⟩; have B35 := B34.trans (hb35.mono B34.size); have y35 := y34.below hb35; have x35 := x34.below hb35; have T35 := T34.below hb35; have Y35 := Y34.below hb35; have Z35 := Z34.below hb35; have a35 := a34.below hb35; have S35 := S34.below hb35; have b35 := b34.below hb35; have V35 := V34.below hb35; have c35 := c34.below hb35; have W35 := W34.below hb35; clear y34 x34 T34 Y34 Z34 a34 S34 b34 V34 c34 W34; clear cY0_34 cY1_34 cY2_34 fY0_34 fY1_34 fY2_34 sY_34; obtain ⟨cY0_35, cY1_35, cY2_35, fY0_35, fY1_35, fY2_35, sY_35⟩ := Y35.open3; clear cZ0_34 cZ1_34 cZ2_34 fZ0_34 fZ1_34 fZ2_34 sZ_34; obtain ⟨cZ0_35, cZ1_35, cZ2_35, fZ0_35, fZ1_35, fZ2_35, sZ_35⟩ := Z35.open3; clear cS0_34 cS1_34 cS2_34 fS0_34 fS1_34 fS2_34 sS_34; obtain ⟨cS0_35, cS1_35, cS2_35, fS0_35, fS1_35, fS2_35, sS_35⟩ := S35.open3; clear cV0_34 cV1_34 cV2_34 fV0_34 fV1_34 fV2_34 sV_34; obtain ⟨cV0_35, cV1_35, cV2_35, fV0_35, fV1_35, fV2_35, sV_35⟩ := V35.open3; clear cW0_34 cW1_34 cW2_34 fW0_34 fW1_34 fW2_34 sW_34; obtain ⟨cW0_35, cW1_35, cW2_35, fW0_35, fW1_35, fW2_35, sW_35⟩ := W35.open3)
        | fail)
      cases ok
      · go_wp2_with fail
        go_ret
        exact ⟨rfl, by assumption⟩
      · obtain ⟨⟨e1, is1, hI1, HI1⟩, e2, hI2, HI2⟩ := hIS'.out rfl
        clear hIS'
        go_upto_region 26 with
        (first
          | (go_at_call 29; (with_reducible refine (HI1.out _ _ _ y35 a35 T35).mono ?_); rintro e w36 ⟨rfl, hb36⟩; have B36 := B35.trans (hb36.mono B35.size); have y36 := y35.below hb36; have x36 := x35.below hb36; have a36 := a35.below hb36; have T36 := T35.below hb36; have Y36 := Y35.below hb36; have S36 := S35.below hb36; clear y35 x35 a35 T35 Y35 S35; obtain ⟨cY0_36, cY1_36, cY2_36, fY0_36, fY1_36, fY2_36, sY_36⟩ := Y36.open3; obtain ⟨cS0_36, cS1_36, cS2_36, fS0_36, fS1_36, fS2_36, sS_36⟩ := S36.open3)
          | fail)
        go_cut [29, 30] (fun v n w' => v = .bool false ∧ n = .int .i64 e2 ∧ Below w36.heap.size w36 w')
        case first =>
          clear HPA HPB HPC HCC HML HS HO HMK HI1 hI1 hI2 cr ce cm ck ct ci cE cX cN cT cx2 cx3 cit cnt rb hkr htr hi hE0 hxr bj' qj' fit' qX' hXn' bT' hR' dj B36 x36
          have Dw : Below w36.heap.size w36 w36.drew := below_drewN (Below.refl _ _) 1
          have Yd := Y36.below Dw; have Sd := S36.below Dw; have yd := y36.below Dw; have ad := a36.below Dw; have Td := T36.below Dw
          have lP : (digs BB P).length ≤ 100 := digs_short (k := 100) (by have := hPF'.out; rcases this with ⟨h, -⟩ | ⟨-, -, h⟩; (rw [h, bitN_zero]; omega); omega)
          clear cY0_36 cY1_36 cY2_36 fY0_36 fY1_36 fY2_36 sY_36 cS0_36 cS1_36 cS2_36 fS0_36 fS1_36 fS2_36 sS_36
          obtain ⟨i0, hi, hz0, hz1, hz2⟩ := info_parts infoU
          have wF : IntKind.i64.wrap (F - 64) = F - 64 := by rw [IntKind.wrap_i64]; have := hPF'.out; omega
          refine wp_region_held_drew (S := (fun w' => (w'.cell? ⟨by5, 0, none⟩ = some (.bool false) ∧ w'.cell? ⟨by5, 1, none⟩ = some (.slice a (digs BB (X ^ N)).length k) ∧ w'.cell? ⟨by5, 2, none⟩ = some (.int .i64 (E * (N : Int)))) ∧ (w'.cell? ⟨w31.heap.size, 0, none⟩ = some (.bool false) ∧ w'.cell? ⟨w31.heap.size, 1, none⟩ = some (.slice aa31 (digs BB P).length ka31) ∧ w'.cell? ⟨w31.heap.size, 2, none⟩ = some (.int .i64 F)))) (by kernel_rfl) ?_ (fun hHeld => ?_)
          · (try dsimp only); exact And.intro (cells33x Yd) (cells33x Sd)
          have G37 : Below w36.heap.size w36 ((w36.alloc (.cells #[.int .u64 1] 53 (0, 0))).drew) := below_drewN (below_alloc w36 (.cells #[.int .u64 1] 53 (0, 0))) 1
          have Y37 := Y36.below G37; have S37 := S36.below G37; have y37 := y36.below G37; have a37 := a36.below G37; have T37 := T36.below G37
          have at37 : ((w36.alloc (.cells #[.int .u64 1] 53 (0, 0))).drew).heap[w36.heap.size]? = some (.cells #[.int .u64 1] 53 (0, 0)) := heap_alloc_new w36 _
          have zz := Lib.hid (And.intro (cells33x Y37) (cells33x S37))
          refine wpAnyH_take (i := 0) (v := ?_) (getOf rfl) (by kernel_rfl) (by kernel_rfl) (by kernel_rfl) (fun _ _ _ h => h) (Or.inl ⟨by rfl, ?_⟩) hHeld ?_
          rotate_left
          · (intro w hSw; (try dsimp only at hSw); go_simp; (try with_reducible rfl))
          (try simp only [Act.put, List.setIfInBounds_toArray, List.set_cons_zero, List.set_cons_succ])
          refine wpAnyH_take (i := 1) (v := ?_) (getOf rfl) (by kernel_rfl) (by kernel_rfl) (by kernel_rfl) (fun _ _ _ h => h) (Or.inl ⟨by rfl, ?_⟩) hHeld ?_
          rotate_left
          · (intro w hSw; (try dsimp only at hSw); go_simp; (try with_reducible rfl))
          (try simp only [Act.put, List.setIfInBounds_toArray, List.set_cons_zero, List.set_cons_succ])
          refine wpAnyH_take (i := 2) (v := ?_) (getOf rfl) (by kernel_rfl) (by kernel_rfl) (by kernel_rfl) (fun _ _ _ h => h) (Or.inl ⟨by rfl, ?_⟩) hHeld ?_
          rotate_left
          · (intro w hSw; (try dsimp only at hSw); go_simp; (try with_reducible rfl))
          (try simp only [Act.put, List.setIfInBounds_toArray, List.set_cons_zero, List.set_cons_succ])
          refine wpAnyH_take (i := 3) (v := ?_) (getOf rfl) (by kernel_rfl) (by kernel_rfl) (by kernel_rfl) (fun _ _ _ h => h) (Or.inl ⟨by rfl, ?_⟩) hHeld ?_
          rotate_left
          · (intro w hSw; (try dsimp only at hSw); go_simp; (try with_reducible rfl))
          (try simp only [Act.put, List.setIfInBounds_toArray, List.set_cons_zero, List.set_cons_succ])
          refine wpAnyH_take (i := 5) (v := ?_) (getOf rfl) (by kernel_rfl) (by kernel_rfl) (by kernel_rfl) (fun _ _ _ h => h) (Or.inl ⟨by rfl, ?_⟩) hHeld ?_
          rotate_left
          · (intro w hSw; (try dsimp only at hSw); go_simp; (try with_reducible rfl))
          (try simp only [Act.put, List.setIfInBounds_toArray, List.set_cons_zero, List.set_cons_succ])
          refine wpAnyH_take (i := 6) (v := ?_) (getOf rfl) (by kernel_rfl) (by kernel_rfl) (by kernel_rfl) (fun _ _ _ h => h) (Or.inl ⟨by rfl, ?_⟩) hHeld ?_
          rotate_left
          · (intro w hSw; (try dsimp only at hSw); go_simp; (try with_reducible rfl))
          (try simp only [Act.put, List.setIfInBounds_toArray, List.set_cons_zero, List.set_cons_succ])
          refine wpAnyH_take (i := 8) (v := ?_) (getOf rfl) (by kernel_rfl) (by kernel_rfl) (by kernel_rfl) (fun _ _ _ h => h) (Or.inl ⟨by rfl, ?_⟩) hHeld ?_
          rotate_left
          · (intro w hSw; (try dsimp only at hSw); go_simp; (try with_reducible rfl))
          (try simp only [Act.put, List.setIfInBounds_toArray, List.set_cons_zero, List.set_cons_succ])
          refine wpAnyH_take (i := 9) (v := ?_) (getOf rfl) (by kernel_rfl) (by kernel_rfl) (by kernel_rfl) (fun _ _ _ h => h) (Or.inl ⟨by rfl, ?_⟩) hHeld ?_
          rotate_left
          · (intro w hSw; (try dsimp only at hSw); go_simp; (try with_reducible rfl))
          (try simp only [Act.put, List.setIfInBounds_toArray, List.set_cons_zero, List.set_cons_succ])
          refine wpAnyH_take (i := 10) (v := ?_) (getOf rfl) (by kernel_rfl) (by kernel_rfl) (by kernel_rfl) (fun _ _ _ h => h) (Or.inl ⟨by rfl, ?_⟩) hHeld ?_
          rotate_left
          · (intro w hSw; (try dsimp only at hSw); go_simp; (try with_reducible rfl))
          (try simp only [Act.put, List.setIfInBounds_toArray, List.set_cons_zero, List.set_cons_succ])
          refine wpAnyH_ready (rs := [4]) (by kernel_rfl) (by simp) ?_
          refine AllReadyH.cons (getOf rfl) (fun K hK => ?_) AllReadyH.nil
          go_simp
          refine hK.out _ _ ?_ (fun hHeld2 => ?_)
          · (try dsimp only); exact zz.out
          clear hK K hHeld
          have hHeld := hHeld2
          clear hHeld2
          (try simp only [Act.put, List.setIfInBounds_toArray, List.set_cons_zero, List.set_cons_succ])
          refine wpAnyH_ready (rs := [7]) (by kernel_rfl) (by simp) ?_
          refine AllReadyH.cons (getOf rfl) (fun K hK => ?_) AllReadyH.nil
          refine step_append_rd (N := fun _ => True) (xs := [L64 1]) (ys := (digs BB P).map L64) (n := 1) rfl (.tmp 156) (.tmp 158) 22 rfl w36.heap.size 53 i0 (.int .u64 0) 8 Tryd.underlying22 hi hz0 hz1 hz2 rfl rfl rfl (own_unit at37 (Nat.le_refl _)) a37 (one64 _) ?_ ?_ ?_ ?_
          · rw [List.length_map]; unfold maxLen; omega
          · rw [List.length_map]; omega
          · exact G37.size
          intro v38 w38 own38 hg38
          have G38 := G37.grown hg38 G37.size (fun k hk => by simp [Value.ownBlock, Act.eval] at hk; omega)
          have Y38 := Y36.below G38; have S38 := S36.below G38; have y38 := y36.below G38; have T38 := T36.below G38; have B38 := G38
          have u38 : RdN w38 v38 (1 :: digs BB P) := Rd.of_own own38 (fun _ _ => trivial)
          obtain ⟨au38, ku38, rfl, -⟩ := u38.view
          rw [List.length_cons] at u38
          refine hK.out _ _ ?_ (fun hHeld2 => ?_)
          · (try dsimp only); exact And.intro (cells33x Y38) (cells33x S38)
          clear hK K hHeld
          have hHeld := hHeld2
          clear hHeld2
          (try simp only [Act.put, List.setIfInBounds_toArray, List.set_cons_zero, List.set_cons_succ])
          refine wpAnyH_take (i := 11) (v := ?_) (getOf rfl) (by kernel_rfl) (by kernel_rfl) (by kernel_rfl) (fun _ _ _ h => h) (Or.inl ⟨by rfl, ?_⟩) hHeld ?_
          rotate_left
          · (intro w hSw; (try dsimp only at hSw); go_simp; (try with_reducible rfl))
          (try simp only [Act.put, List.setIfInBounds_toArray, List.set_cons_zero, List.set_cons_succ])
          refine wpAnyH_ready (rs := [12]) (by kernel_rfl) (by simp) ?_
          refine AllReadyH.cons (getOf rfl) (fun K hK => ?_) AllReadyH.nil
          go_simp
          (go_at_call 29; (with_reducible refine (HI2.out _ _ _ y38 u38 T38).mono ?_); rintro e w39 ⟨rfl, hb39⟩)
          have Y39 := Y38.below hb39; have S39 := S38.below hb39; have B39 := B38.trans (hb39.mono B38.size)
          (try (go_wp2_with fail))
          refine hK.out _ _ ?_ (fun hHeld2 => ?_)
          · (try dsimp only); exact And.intro (cells33x Y39) (cells33x S39)
          clear hK K hHeld
          have hHeld := hHeld2
          clear hHeld2
          (try simp only [Act.put, List.setIfInBounds_toArray, List.set_cons_zero, List.set_cons_succ])
          refine wpAnyH_take (i := 13) (v := ?_) (getOf rfl) (by kernel_rfl) (by kernel_rfl) (by kernel_rfl) (fun _ _ _ h => h) (Or.inl ⟨by rfl, ?_⟩) hHeld ?_
          rotate_left
          · (intro w hSw; (try dsimp only at hSw); go_simp; (try with_reducible rfl))
          (try simp only [Act.put, List.setIfInBounds_toArray, List.set_cons_zero, List.set_cons_succ])
          refine wpAnyH_take (i := 14) (v := ?_) (getOf rfl) (by kernel_rfl) (by kernel_rfl) (by kernel_rfl) (fun _ _ _ h => h) (Or.inl ⟨by rfl, ?_⟩) hHeld ?_
          rotate_left
          · (intro w hSw; (try dsimp only at hSw); go_simp; (try with_reducible rfl))
          (try simp only [Act.put, List.setIfInBounds_toArray, List.set_cons_zero, List.set_cons_succ])
          refine wpAnyH_take (i := 15) (v := ?_) (getOf rfl) (by kernel_rfl) (by kernel_rfl) (by kernel_rfl) (fun _ _ _ h => h) (Or.inl ⟨by rfl, ?_⟩) hHeld ?_
          rotate_left
          · (intro w hSw; (try dsimp only at hSw); go_simp; (try with_reducible rfl))
          (try simp only [Act.put, List.setIfInBounds_toArray, List.set_cons_zero, List.set_cons_succ])
          refine wpAnyH_take (i := 16) (v := ?_) (getOf rfl) (by kernel_rfl) (by kernel_rfl) (by kernel_rfl) (fun _ _ _ h => h) (Or.inl ⟨by rfl, ?_⟩) hHeld ?_
          rotate_left
          · (intro w hSw; (try dsimp only at hSw); go_simp; (try with_reducible rfl))
          (try simp only [Act.put, List.setIfInBounds_toArray, List.set_cons_zero, List.set_cons_succ])
          refine wpAnyH_take (i := 17) (v := ?_) (getOf rfl) (by kernel_rfl) (by kernel_rfl) (by kernel_rfl) (fun _ _ _ h => h) (Or.inl ⟨by rfl, ?_⟩) hHeld ?_
          rotate_left
          · (intro w hSw; (try dsimp only at hSw); go_simp; (try with_reducible rfl))
          (try simp only [Act.put, List.setIfInBounds_toArray, List.set_cons_zero, List.set_cons_succ])
          refine wpAnyH_done (by kernel_rfl) ?_ _
          go_wp2_with fail
          go_meet
          exact ⟨rfl, rfl, by assumption⟩
        case rest =>
          obtain ⟨rfl, rfl, hb40⟩ := hcut
          generalize hwx : wc = w40 at *
          clear hwx
          have B40 := B36.trans (hb40.mono B36.size)
          rcases hI1 with ⟨rfl, rfl⟩ | ⟨rfl, rfl⟩
          · rcases hI2 with rfl | rfl
            · go_wp2_with fail
              go_ret
              exact ⟨rfl, by assumption⟩
            · go_wp2_with fail
              go_ret
              exact ⟨rfl, by assumption⟩
          · rcases hI2 with rfl | rfl
            · go_wp2_with fail
              go_ret
              exact ⟨rfl, by assumption⟩
            · go_wp2_with fail
              go_ret
              exact ⟨rfl, by assumption⟩
end Go.Proofs.YtabdmnjdmnnejaaDoor.PESo
