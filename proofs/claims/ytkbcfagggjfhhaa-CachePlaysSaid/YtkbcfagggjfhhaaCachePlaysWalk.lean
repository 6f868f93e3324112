/- CachePlays returns true and leaves what was there: the walk. Conditions: none beyond what a number and a slice of calls are. -/
import Derived.Test.YtkbcfagggjfhhaaPlays0
import Derived.Deep.CutBlock
import Derived.Deep.DeepCutAuto
namespace Go.Proofs.Ytkbcfagggjfhhaa.CPlays
set_option maxRecDepth 100000
open Go.RowKit Go.Proofs.Ytkbcfagggjfhhaa Go.Proofs.Ytkbcfagggjfhhaa.Csi
set_option linter.unusedSimpArgs false
set_option linter.unusedVariables false

/-- What the walk is told of a slice of calls that came in. -/
def IsActs (w : World) (a : Option Addr) (len : Nat) : Prop :=
  ∀ i, i < len → ∃ b off kd s v, a = some ⟨b, off, none⟩ ∧ b < w.heap.size ∧ s.size ≤ maxLen ∧ w.cell? ⟨b, off + i * 3, none⟩ = some (.int .i64 kd) ∧ w.cell? ⟨b, off + i * 3 + 1, none⟩ = some (.string s) ∧ w.cell? ⟨b, off + i * 3 + 2, none⟩ = some (.int .i64 v)

/-- The document's list and the cache agree; the list lies in blocks N of which the cache has none. -/
def Agree (w : World) (c q : Nat) (v : Value) (N : Nat → Prop) (D : List Itm) (w' : World) : Prop :=
  Rd2 N w' v D ∧ K N c q (D.map enc) w' ∧ (∀ k, N k → k < w'.heap.size) ∧ (∀ k, k < w.heap.size → N k) ∧ Below w.heap.size w w'
theorem Agree.len {w w' : World} {c q : Nat} {v : Value} {N : Nat → Prop} {D : List Itm} (h : Agree w c q v N D w') : D.length ≤ q ∧ q ≤ 4096 := by
  have := h.2.1.len
  rwa [List.length_map] at this
theorem Agree.nodup {w w' : World} {c q : Nat} {v : Value} {N : Nat → Prop} {D : List Itm} (h : Agree w c q v N D w') : (D.map Prod.fst).Nodup := enc_nodup h.2.1.nodup
theorem Agree.drewN {w w' : World} {c q : Nat} {v : Value} {N : Nat → Prop} {D : List Itm} (h : Agree w c q v N D w') (n : Nat) : Agree w c q v N D (w'.drewN n) :=
  ⟨h.1.keep (Fr.of_drewN w' n) (fun _ _ h => h), h.2.1.keep (Fr.of_drewN w' n) (fun _ _ h => h.elim), h.2.2.1, h.2.2.2.1, below_drewN h.2.2.2.2 n⟩
theorem Agree.below {w w' w2 : World} {c q : Nat} {v : Value} {N : Nat → Prop} {D : List Itm} (h : Agree w c q v N D w') (hb : Below w'.heap.size w' w2) : Agree w c q v N D w2 :=
  ⟨h.1.below hb, h.2.1.below hb, fun k hk => Nat.lt_of_lt_of_le (h.2.2.1 k hk) hb.size, h.2.2.2.1, h.2.2.2.2.trans (hb.mono h.2.2.2.2.size)⟩
/-- A block of the call's own, made behind all others. -/
theorem Agree.alloc {w w' : World} {c q : Nat} {v : Value} {N : Nat → Prop} {D : List Itm} (h : Agree w c q v N D w') (o : Obj) : Agree w c q v (fun k => N k ∨ k = w'.heap.size) D (w'.alloc o) := by
  refine ⟨(h.1.keep (S := fun _ => False) ((Fr.refl _ _).alloc o) (fun _ _ h => h)).mono (fun g _ hg => .inl hg), ((h.2.1.more (N' := fun k => N k ∨ k = w'.heap.size) (fun k hk hn => hn.elim id (fun e => by omega))).keep (F := fun _ => False) ((Fr.refl _ _).alloc o) (fun _ _ h => h.elim)), ?_, fun k hk => .inl (h.2.2.2.1 k hk), h.2.2.2.2.alloc h.2.2.2.2.size o⟩
  rintro k (hk | rfl)
  · have := h.2.2.1 k hk; simp; omega
  · simp
/-- The cache takes a step. -/
theorem Agree.cache {w w' w2 : World} {c q : Nat} {v : Value} {N : Nat → Prop} {D : List Itm} (h : Agree w c q v N D w') (F : Fr (fun k => ¬ N k) w' w2) : Rd2 N w2 v D ∧ (∀ k, N k → k < w2.heap.size) ∧ Below w.heap.size w w2 :=
  ⟨h.1.keep F (fun g hg hn => hn hg), fun k hk => Nat.lt_of_lt_of_le (h.2.2.1 k hk) F.size, h.2.2.2.2.trans (F.below h.2.2.2.2.size (fun k hk hn => hn (h.2.2.2.1 k hk)))⟩
/-- The document's list is written anew. -/
theorem agree_new {w w2 w3 : World} {c q : Nat} {u : Value} {N : Nat → Prop} {D' : List Itm} (hK : K N c q (D'.map enc) w2) (hN : ∀ k, N k → k < w2.heap.size) (hw : ∀ k, k < w.heap.size → N k) (hB : Below w.heap.size w w2) (hb : Below w2.heap.size w2 w3) (hR : Rd2 (fun g => w2.heap.size ≤ g) w3 u D') :
    Agree w c q u (fun k => N k ∨ (w2.heap.size ≤ k ∧ k < w3.heap.size)) D' w3 := by
  refine ⟨hR.mono (fun g hg h => .inr ⟨h, hg⟩), (hK.more (fun k hk hn => hn.elim id (fun h => by omega))).below hb, ?_, fun k hk => .inl (hw k hk), hB.trans (hb.mono hB.size)⟩
  rintro k (hk | hk)
  · exact Nat.lt_of_lt_of_le (hN k hk) hb.size
  · exact hk.2

set_option maxRecDepth 100000 in
set_option maxHeartbeats 4000000 in
theorem walk_early (q0 : Int) (a1 : Option Addr) (len1 cap1 : Nat) (w : World) (hh : 200 < len1 ∨ q0 < 1 ∨ 4096 < q0) :
    Calls Try.prog 4 #[.int .i64 q0, .slice a1 len1 cap1] w fun e w' => e = .returned (.bool true) ∧ Below w.heap.size w w' := by
  by_cases h200 : 200 < len1
  · clear hh
    have hd : decide (200 < (len1 : Int)) = true := decide_eq_true (by omega)
    go_enter Try.func4, Try.ntmps4
    go_wp2_with
      (first
        | (go_at_call 6; (with_reducible refine (CAlive.alive_any _).mono ?_); rintro e w1 ⟨rfl, B1⟩)
        | fail)
    go_ret
    exact ⟨rfl, B1⟩
  have hd : decide (200 < (len1 : Int)) = false := decide_eq_false (by omega)
  have hq : q0 < 1 ∨ 4096 < q0 := hh.elim (fun h => absurd h h200) id
  clear hh
  · have HA := Lib.hid (fun wa => new_arg (w := wa) hq)
    by_cases h1 : q0 < 1
    · clear hq
      go_enter Try.func4, Try.ntmps4
      go_wp2_with
        (first
          | (go_at_call 6; (with_reducible refine (CAlive.alive_any _).mono ?_); rintro e w1 ⟨rfl, B1⟩)
          | (go_at_call 12; (with_reducible refine (HA.out _).mono ?_); rintro e w2 ⟨rfl, rfl⟩)
          | fail)
      go_ret
      exact ⟨rfl, B1⟩
    · have h2 : 4096 < q0 := by omega
      clear hq
      go_enter Try.func4, Try.ntmps4
      go_wp2_with
        (first
          | (go_at_call 6; (with_reducible refine (CAlive.alive_any _).mono ?_); rintro e w1 ⟨rfl, B1⟩)
          | (go_at_call 12; (with_reducible refine (HA.out _).mono ?_); rintro e w2 ⟨rfl, rfl⟩)
          | fail)
      go_ret
      exact ⟨rfl, B1⟩
set_option maxRecDepth 100000 in
set_option maxHeartbeats 4000000 in
theorem walk (q0 : Int) (a1 : Option Addr) (len1 cap1 : Nat) (w : World) (w1 : IsActs w a1 len1) (hm : len1 ≤ 9223372036854775807) :
    Calls Try.prog 4 #[.int .i64 q0, .slice a1 len1 cap1] w fun e w' => e = .returned (.bool true) ∧ Below w.heap.size w w' := by
  clear hm
  by_cases hh : 200 < len1 ∨ q0 < 1 ∨ 4096 < q0
  · exact walk_early q0 a1 len1 cap1 w hh
  have h200 : ¬ 200 < len1 := fun h => hh (.inl h)
  have hq : ¬ (q0 < 1 ∨ 4096 < q0) := fun h => hh (.inr h)
  clear hh
  have hd : decide (200 < (len1 : Int)) = false := decide_eq_false (by omega)
  obtain ⟨q, rfl⟩ := Int.eq_ofNat_of_zero_le (show 0 ≤ q0 by omega)
  have hq1 : 1 ≤ q := by omega
  have hq2 : q ≤ 4096 := by omega
  have d1 : decide ((q : Int) < 1) = false := decide_eq_false (by omega)
  have d2 : decide (4096 < (q : Int)) = false := decide_eq_false (by omega)
  clear hq
  have HA := Lib.hid (fun (wa : World) (hs : w.heap.size ≤ wa.heap.size) => new_kv (N := fun k => k < wa.heap.size) (w := wa) hq1 hq2 (fun _ h => h))
  have Hv := Lib.hid w1; clear w1
  go_enter Try.func4, Try.ntmps4
  go_wp2_with
    (first
      | (go_at_call 6; (with_reducible refine (CAlive.alive_any _).mono ?_); rintro e wa ⟨rfl, B1⟩)
      | (go_at_call 12; (with_reducible refine (HA.out _ B1.size).mono ?_); rintro e w2 ⟨c, rfl, k2, hb⟩; have B2 := B1.trans (hb.mono B1.size); clear HA)
      | fail)
  have hA0 : Agree w c q (.slice none 0 0) (fun k => k < wa.heap.size) [] w2 := ⟨Rd2.nil _ _, k2, fun k hk => Nat.lt_of_lt_of_le hk hb.size, fun k hk => Nat.lt_of_lt_of_le hk B1.size, B2⟩
  clear k2 hb
  go_loopw [7, 8] (fun v i wr => ∃ k : Nat, k ≤ len1 ∧ i = .int .i64 k ∧ ∃ N D, Agree w c q v N D wr) (fun _ i _ => len1 - (intOf i).toNat)
  case atStart => exact ⟨0, Nat.zero_le _, rfl, _, _, hA0⟩
  case round =>
    clear hA0
    obtain ⟨k, hk, rfl, N, D, hA⟩ := hrel
    by_cases hkn : k < len1
    · obtain ⟨b, off, kd, s, vv, rfl, hbw, hsz, e0, e1, e2⟩ := Hv.out k hkn
      have B := hA.2.2.2.2
      have e0' := (B.cell (p := ⟨b, off + k * 3, none⟩) hbw).trans e0
      have e1' := (B.cell (p := ⟨b, off + k * 3 + 1, none⟩) hbw).trans e1
      have e2' := (B.cell (p := ⟨b, off + k * 3 + 2, none⟩) hbw).trans e2
      clear e0 e1 e2 B
      have wk1 : IntKind.i64.wrap ((k : Int) + 1) = (k : Int) + 1 := by rw [IntKind.wrap_i64]; omega
      have hAa := hA.alloc (.cells #[.int .i64 kd, .string s, .int .i64 vv] 41 (0, 0))
      have hba := heap_alloc_new wr (.cells #[.int .i64 kd, .string s, .int .i64 vv] 41 (0, 0))
      have hlen := hA.len
      obtain ⟨am, cm, rfl, -⟩ := hA.1.view
      have HF := Lib.hid (rfind_n (k := s) (hAa.1.mono (fun _ _ _ => trivial)) (by omega))
      have HAa := Lib.hid hAa; have Hba := Lib.hid hba
      obtain ⟨ba, hbad⟩ : ∃ ba, ba = wr.heap.size := ⟨_, rfl⟩
      clear hA hAa hba
      go_upto_block 2 with
        (first
          | (go_at_call 13; (with_reducible refine HF.out.mono ?_); rintro e w3 ⟨rfl, hb3⟩; have h3 := (Fr.of_below (S := fun _ => False) hb3).at Hba.out (fun h => h); have s0 := cell_at (j := 0) (v := .int .i64 kd) h3 rfl; have s1 := cell_at (j := 1) (v := .string s) h3 rfl; have s2 := cell_at (j := 2) (v := .int .i64 vv) h3 rfl)
          | fail)
      have hA3 := HAa.out.below hb3
      have hB3 : wr.heap.size < w3.heap.size := lt_size h3
      obtain ⟨N3, hN3⟩ : ∃ N3 : Nat → Prop, N3 = fun k => N k ∨ k = wr.heap.size := ⟨_, rfl⟩
      rw [← hN3] at hA3
      have hNb : N3 wr.heap.size := by rw [hN3]; exact .inr rfl
      clear hN3 HAa Hba HF hb3
      have H3 := Lib.hid h3; clear h3
      have hnd := hA3.nodup
      have Hc := Lib.hid hA3; clear hA3
      generalize hgx : wr.heap.size = ba at *
      clear hgx
      obtain ⟨ix, hix⟩ : ∃ ix, idxOf s D 0 = ix := ⟨_, rfl⟩
      rw [hix]
      obtain ⟨pf, hpf⟩ : ∃ pf, (kd == 0) = pf := ⟨_, rfl⟩
      rw [hpf]
      have Hpf := Lib.hid hpf; clear hpf
      go_cut [7] (fun v wx => ∃ N' D', Agree w c q v N' D' wx ∧ N' ba ∧ wx.heap[ba]? = some (.cells #[.int .i64 kd, .string s, .int .i64 vv] 41 (0, 0)))
      case first =>
        as_aux_lemma =>
          by_cases hmem : s ∈ D.map Prod.fst
          · obtain ⟨⟨s', v0⟩, hx, hs'⟩ := List.mem_map.1 hmem
            simp only at hs'
            subst hs'
            obtain ⟨dl, dr, rfl⟩ := List.append_of_mem hx
            obtain ⟨hfs, hnd1⟩ := front_split (v := v0) hnd
            have hidx : idxOf s' (dl ++ (s', v0) :: dr) 0 = (dl.length : Int) := by rw [idxOf_some dl 0 hnd1]; simp
            obtain rfl : ix = (dl.length : Int) := hix.symm.trans hidx
            have hKf : K N3 c q (dl.map enc ++ (.string s', .int .i64 v0) :: dr.map enc) w3 := by have := Hc.out.2.1; rw [List.map_append, List.map_cons] at this; exact this
            have hge : (0 : Int) ≤ (dl.length : Int) := by omega
            have hlt : dl.length < (dl ++ (s', v0) :: dr).length := by simp
            have hat : (dl ++ (s', v0) :: dr)[dl.length]? = some (s', v0) := by simp
            have hD5 : (dl ++ (s', v0) :: dr).length ≤ 5000 := by omega
            have hEE : (.string s', .int .i64 v0) :: (dl.map enc ++ dr.map enc) = (front (s', v0) (dl ++ (s', v0) :: dr)).map enc := by rw [hfs, List.map_cons, List.map_append]; rfl
            have hDm : dl.map enc ++ (.string s', .int .i64 v0) :: dr.map enc = (dl ++ (s', v0) :: dr).map enc := by rw [List.map_append, List.map_cons]; rfl
            have hmf : ∀ (fn : Fn) (first cap : Array Value) (w : World), (Instr.makeFunc fn first cap).run Try.prog w = .ok (.func fn first cap) w := fun _ _ _ _ => rfl
            generalize hDD : dl ++ (s', v0) :: dr = DD at *
            obtain ⟨g, of, rfl, -, hNg, hg, c0, c1⟩ := Hc.out.1.at hat
            clear hDD hx hfs hnd1 hidx hix hmem hat
            by_cases k1 : kd = 1
            · subst k1
              have HP := Lib.hid (find_kv hKf Hc.out.2.2.1)
              clear hKf
              go_wp2_with
                (first
                  | (go_at_call 14; (with_reducible refine HP.out.mono ?_); rintro e w4 ⟨rfl, k4, f4⟩; obtain ⟨r4, n4, b4⟩ := Hc.out.cache f4; have h4 := f4.at H3.out (fun h => h hNb); have c0' := f4.at_cell c0 (fun h => h hNg); have c1' := f4.at_cell c1 (fun h => h hNg))
                  | (go_at_call 15; (with_reducible refine (rfront_n (r4.mono (fun _ _ _ => trivial)) hD5).mono ?_); rintro e w5 ⟨u5, rfl, r5, b5⟩)
                  | fail)
              go_meet
              rw [hEE] at k4
              exact ⟨_, _, agree_new k4 n4 Hc.out.2.2.2.1 b4 b5 r5, .inl hNb, (Fr.of_below (S := fun _ => False) b5).at h4 (fun h => h)⟩
            by_cases k2 : kd = 2
            · subst k2
              have hQ := Hc.out.alloc (.cells #[.int .i64 0] 3 (0, 0))
              have hq0 := heap_alloc_new w3 (.cells #[.int .i64 0] 3 (0, 0))
              have hKq : K (fun k => N3 k ∨ k = w3.heap.size) c q (dl.map enc ++ (.string s', .int .i64 v0) :: dr.map enc) (w3.alloc (.cells #[.int .i64 0] 3 (0, 0))) := by have := hQ.2.1; rw [← hDm] at this; exact this
              have HP := Lib.hid (fun F => ask_there (F := F) hKq hQ.2.2.1)
              have HQ := Lib.hid hQ; have Hq0 := Lib.hid hq0
              have h3a := (below_alloc' w3 (.cells #[.int .i64 0] 3 (0, 0))).at H3.out (fun h => h)
              have s1a := cell_at (j := 1) (v := .string s') h3a rfl
              have H3a := Lib.hid h3a
              clear hKf hKq hQ hq0 h3a
              go_wp2_with
                (first
                  | (go_at_call 16; (with_reducible refine (HP.out _).mono ?_); rintro e w4 ⟨rfl, k4, f4⟩; obtain ⟨r4, n4, b4⟩ := HQ.out.cache f4; have h4 := f4.at H3a.out (fun h => h (.inl hNb)); have q4 := cell_at (j := 0) (v := .int .i64 0) (f4.at Hq0.out (fun h => h (.inr rfl))) rfl; have c0' := f4.at_cell ((below_alloc' w3 _).at_cell c0 (fun h => h)) (fun h => h (.inl hNg)); have c1' := f4.at_cell ((below_alloc' w3 _).at_cell c1 (fun h => h)) (fun h => h (.inl hNg)))
                  | (go_at_call 15; (with_reducible refine (rfront_n (r4.mono (fun _ _ _ => trivial)) hD5).mono ?_); rintro e w5 ⟨u5, rfl, r5, b5⟩)
                  | fail)
              go_meet
              rw [hEE] at k4
              exact ⟨_, _, agree_new k4 n4 (fun k hk => .inl (Hc.out.2.2.2.1 k hk)) b4 b5 r5, .inl (.inl hNb), (Fr.of_below (S := fun _ => False) b5).at h4 (fun h => h)⟩
            · go_wp2_with fail
              go_meet
              exact ⟨_, _, Hc.out, hNb, H3.out⟩
          · have hidx : idxOf s D 0 = -1 := idxOf_none D 0 hmem
            obtain rfl : ix = -1 := hix.symm.trans hidx
            clear hix
            have hmem' : Value.string s ∉ (D.map enc).map Prod.fst := fun h => hmem (enc_mem.1 h)
            by_cases k1 : kd = 1
            · subst k1
              have HP := Lib.hid (find_not hsz Hc.out.2.1 hmem')
              go_wp2_with
                (first
                  | (go_at_call 14; (with_reducible refine HP.out.mono ?_); rintro e w4 ⟨rfl, rfl⟩)
                  | fail)
              go_meet
              exact ⟨_, _, Hc.out, hNb, H3.out⟩
            by_cases k2 : kd = 2
            · subst k2
              have hmf : ∀ (fn : Fn) (first cap : Array Value) (w : World), (Instr.makeFunc fn first cap).run Try.prog w = .ok (.func fn first cap) w := fun _ _ _ _ => rfl
              have hQ := Hc.out.alloc (.cells #[.int .i64 0] 3 (0, 0))
              have hq0 := heap_alloc_new w3 (.cells #[.int .i64 0] 3 (0, 0))
              have h3a := (below_alloc' w3 (.cells #[.int .i64 0] 3 (0, 0))).at H3.out (fun h => h)
              have s1a := cell_at (j := 1) (v := .string s) h3a rfl
              have hbq : ba ≠ w3.heap.size := by omega
              have HP := Lib.hid (ask_not (bq := w3.heap.size) hq1 hQ.2.1 hQ.2.2.1 hsz hmem' (cell_at (j := 2) (v := .int .i64 vv) h3a rfl) hq0 (.inr rfl) hbq)
              have HQ := Lib.hid hQ; have H3a := Lib.hid h3a
              have hD5 : D.length ≤ 5000 := by omega
              have hfr : front (s, vv) D = (s, vv) :: D := front_new hmem
              have hr4 : Hid (∀ w4, Fr (fun k => ¬(N3 k ∨ k = w3.heap.size) ∨ k = w3.heap.size) (w3.alloc (.cells #[.int .i64 0] 3 (0, 0))) w4 → Rd2 N3 w4 (.slice am D.length cm) D ∧ (∀ k, (N3 k ∨ k = w3.heap.size) → k < w4.heap.size) ∧ Below w.heap.size w w4) := Lib.hid (fun w4 f => by
                refine ⟨(Hc.out.1.keep (S := fun _ => False) ((Fr.refl _ _).alloc _) (fun _ _ h => h)).mono (fun g hg h => (⟨h, Hc.out.2.2.1 g h⟩ : N3 g ∧ g < w3.heap.size)) |>.keep f (fun g hg h => ?_) |>.mono (fun g _ h => h.1), fun k hk => Nat.lt_of_lt_of_le (HQ.out.2.2.1 k hk) f.size, HQ.out.2.2.2.2.trans (f.below HQ.out.2.2.2.2.size (fun k hk h => ?_))⟩
                · rcases h with h | h
                  · exact h (.inl hg.1)
                  · have := hg.2; omega
                · rcases h with h | h
                  · exact h (.inl (Hc.out.2.2.2.1 k hk))
                  · have := HQ.out.2.2.2.2.size; have h6 : k < w3.heap.size := Nat.lt_of_lt_of_le hk Hc.out.2.2.2.2.size; omega)
              clear hQ hq0 h3a
              go_upto_region 32 with
                (first
                  | (go_at_call 16; (with_reducible refine HP.out.mono ?_); rintro e w4 ⟨rfl, k', g', M', hP, k4, f4, q4⟩; obtain ⟨r4, n4, b4⟩ := hr4.out w4 f4; have h4 := f4.at H3a.out (fun h => h.elim (fun h => h (.inl hNb)) hbq); have t1 := cell_at (j := 1) (v := .string s) h4 rfl; have t2 := cell_at (j := 2) (v := .int .i64 vv) h4 rfl)
                  | (go_at_call 15; (with_reducible refine (rfront_n (r4.mono (fun _ _ _ => trivial)) hD5).mono ?_); rintro e w5 ⟨u5, rfl, r5, b5⟩)
                  | fail)
              rw [hfr] at r5
              rw [putP_new hP hmem] at k4
              obtain ⟨a5, c5, rfl, hc5, hc5', -⟩ := r5.view
              have hlc : ((s, vv) :: D).length = D.length + 1 := rfl
              have hA5 : ∀ t, t ≤ D.length + 1 → t = min (D.length + 1) q → Agree w c q (.slice a5 t c5) (fun k => (N3 k ∨ k = w3.heap.size) ∨ (w4.heap.size ≤ k ∧ k < w5.heap.size)) (((s, vv) :: D).take q) w5 := fun t ht he => by
                have hr := r5.take (k := t) (by simpa using ht)
                have he' : ((s, vv) :: D).take t = ((s, vv) :: D).take q := by
                  rw [he]
                  rcases Nat.le_total (D.length + 1) q with h | h
                  · rw [Nat.min_eq_left h, List.take_of_length_le (by simp), List.take_of_length_le (by simpa using h)]
                  · rw [Nat.min_eq_right h]
                rw [he'] at hr
                exact agree_new k4 n4 (fun k hk => .inl (Hc.out.2.2.2.1 k hk)) b4 b5 hr
              have h5 := (Fr.of_below (S := fun _ => False) b5).at h4 (fun h => h)
              have HA5 := Lib.hid hA5; have H5 := Lib.hid h5
              clear r5 k4 r4 h4 h5 hA5 hP
              generalize hn5 : ((s, vv) :: D).length = n5 at *
              by_cases hnq : n5 ≤ q
              · go_wp2_with fail
                go_meet
                exact ⟨_, _, HA5.out (D.length + 1) (Nat.le_refl _) (by omega), .inl (.inl hNb), H5.out⟩
              · go_wp2_with fail
                go_meet
                exact ⟨_, _, HA5.out q (by omega) (by omega), .inl (.inl hNb), H5.out⟩
            · go_wp2_with fail
              go_meet
              exact ⟨_, _, Hc.out, hNb, H3.out⟩
      case rest =>
        clear Hc H3 hnd hB3 hNb hix s0 s1 s2 e0' e1' e2'
        obtain ⟨N1, D1, hA1, hNb, h3⟩ := hcut
        generalize hwx : wc = w4 at *
        clear hwx
        have hlen := hA1.len
        have hnd := hA1.nodup
        have s1 := cell_at (j := 1) (v := .string s) h3 rfl
        have s2 := cell_at (j := 2) (v := .int .i64 vv) h3 rfl
        obtain ⟨am1, cm1, rfl, -⟩ := hA1.1.view
        have Hc := Lib.hid hA1; have H3 := Lib.hid h3
        have hD5 : D1.length ≤ 5000 := by omega
        clear hA1 h3
        go_upto_if 162 with fail
        go_cut [7] (fun v wx => ∃ N' D', Agree w c q v N' D' wx)
        case first =>
          as_aux_lemma =>
            cases pf with
            | false =>
              go_wp2_with fail
              go_meet
              exact ⟨_, _, Hc.out⟩
            | true =>
              by_cases hmem : s ∈ D1.map Prod.fst
              · obtain ⟨⟨s', v0⟩, hx, hs'⟩ := List.mem_map.1 hmem
                simp only at hs'
                subst hs'
                obtain ⟨dl, dr, rfl⟩ := List.append_of_mem hx
                obtain ⟨hfs, hnd1⟩ := front_split (v := vv) hnd
                have hKf : K N1 c q (dl.map enc ++ (.string s', .int .i64 v0) :: dr.map enc) w4 := by have := Hc.out.2.1; rw [List.map_append, List.map_cons] at this; exact this
                have HP := Lib.hid (put_same (vv := vv) hKf Hc.out.2.2.1)
                have hEE : (.string s', .int .i64 vv) :: (dl.map enc ++ dr.map enc) = (front (s', vv) (dl ++ (s', v0) :: dr)).map enc := by rw [hfs, List.map_cons, List.map_append]; rfl
                have hlf : (front (s', vv) (dl ++ (s', v0) :: dr)).length ≤ q := by rw [hfs]; simp at hlen ⊢; omega
                generalize hDD : dl ++ (s', v0) :: dr = DD at *
                clear hKf hx hfs hnd1 hmem
                go_upto_region 36 with
                  (first
                    | (go_at_call 18; (with_reducible refine HP.out.mono ?_); rintro e w5 ⟨rfl, k5, f5⟩; obtain ⟨r5, n5, b5⟩ := Hc.out.cache f5; have h5 := f5.at H3.out (fun h => h hNb); have t1 := cell_at (j := 1) (v := .string s') h5 rfl; have t2 := cell_at (j := 2) (v := .int .i64 vv) h5 rfl)
                    | (go_at_call 15; (with_reducible refine (rfront_n (r5.mono (fun _ _ _ => trivial)) hD5).mono ?_); rintro e w6 ⟨u6, rfl, r6, b6⟩)
                    | fail)
                rw [hEE] at k5
                have hA6 := agree_new k5 n5 Hc.out.2.2.2.1 b5 b6 r6
                generalize front (s', vv) DD = FF at *
                obtain ⟨a6, c6, rfl, -⟩ := r6.view
                have HA6 := Lib.hid hA6
                clear hA6 r6 k5 r5
                go_wp2_with fail
                go_meet
                exact ⟨_, _, HA6.out⟩
              · have hmem' : Value.string s ∉ (D1.map enc).map Prod.fst := fun h => hmem (enc_mem.1 h)
                have hfr : front (s, vv) D1 = (s, vv) :: D1 := front_new hmem
                have hEE : (Value.string s, Value.int .i64 vv) :: D1.map enc = ((s, vv) :: D1).map enc := rfl
                rcases Nat.lt_or_ge D1.length q with hlt | hge
                · have HP := Lib.hid (put_add (vv := vv) hq1 Hc.out.2.1 Hc.out.2.2.1 hsz hmem' (by rw [List.length_map]; exact hlt))
                  have hlf : ((s, vv) :: D1).length ≤ q := hlt
                  go_upto_region 36 with
                    (first
                      | (go_at_call 18; (with_reducible refine HP.out.mono ?_); rintro e w5 ⟨rfl, k5, f5⟩; obtain ⟨r5, n5, b5⟩ := Hc.out.cache f5; have h5 := f5.at H3.out (fun h => h hNb); have t1 := cell_at (j := 1) (v := .string s) h5 rfl; have t2 := cell_at (j := 2) (v := .int .i64 vv) h5 rfl)
                      | (go_at_call 15; (with_reducible refine (rfront_n (r5.mono (fun _ _ _ => trivial)) hD5).mono ?_); rintro e w6 ⟨u6, rfl, r6, b6⟩)
                      | fail)
                  rw [hEE] at k5
                  rw [hfr] at r6
                  have hA6 := agree_new k5 n5 Hc.out.2.2.2.1 b5 b6 r6
                  generalize (s, vv) :: D1 = FF at *
                  obtain ⟨a6, c6, rfl, -⟩ := r6.view
                  have HA6 := Lib.hid hA6
                  clear hA6 r6 k5 r5 hEE
                  go_wp2_with fail
                  go_meet
                  exact ⟨_, _, HA6.out⟩
                · have hlq : D1.length = q := by omega
                  rcases D1.eq_nil_or_concat with h0 | ⟨D0, ⟨ys, yv⟩, h0⟩
                  · rw [h0] at hlq; simp at hlq; omega
                  rw [List.concat_eq_append] at h0
                  have hKf : K N1 c q (D0.map enc ++ [(.string ys, .int .i64 yv)]) w4 := by have := Hc.out.2.1; rw [h0, List.map_append] at this; exact this
                  have hme : D1.map enc = D0.map enc ++ [(.string ys, .int .i64 yv)] := by rw [h0, List.map_append]; rfl
                  have HP := Lib.hid (put_over (vv := vv) hq1 hKf Hc.out.2.2.1 hsz (by rw [← hme]; exact hmem') (by rw [← hme, List.length_map]; exact hlq))
                  have hEE : (Value.string s, Value.int .i64 vv) :: D0.map enc = (((s, vv) :: D1).take q).map enc := by
                    have h1 : D0.length + 1 = q := by rw [← hlq, h0]; simp
                    rw [← h1, List.take_succ_cons, h0, List.take_left]; rfl
                  have hat : ((s, vv) :: D1)[q]? = some (ys, yv) := by
                    have h1 : D0.length + 1 = q := by rw [← hlq, h0]; simp
                    rw [← h1, List.getElem?_cons_succ, h0]; simp
                  have hlf : q < ((s, vv) :: D1).length := by simp; omega
                  have Hlq := Lib.hid hlq
                  have hge' := Lib.hid hge
                  clear hKf hme h0 hlq hge
                  go_upto_region 36 with
                    (first
                      | (go_at_call 18; (with_reducible refine HP.out.mono ?_); rintro e w5 ⟨rfl, k5, f5⟩; obtain ⟨r5, n5, b5⟩ := Hc.out.cache f5; have h5 := f5.at H3.out (fun h => h hNb); have t1 := cell_at (j := 1) (v := .string s) h5 rfl; have t2 := cell_at (j := 2) (v := .int .i64 vv) h5 rfl)
                      | (go_at_call 15; (with_reducible refine (rfront_n (r5.mono (fun _ _ _ => trivial)) hD5).mono ?_); rintro e w6 ⟨u6, rfl, r6, b6⟩)
                      | fail)
                  rw [hEE] at k5
                  rw [hfr] at r6
                  obtain ⟨a6, c6, rfl, hc6, -⟩ := r6.view
                  obtain ⟨g6, o6, rfl, -, -, hg6, y0, y1⟩ := r6.at hat
                  have hA6 := agree_new k5 n5 Hc.out.2.2.2.1 b5 b6 (r6.take (k := q) (Nat.le_of_lt hlf))
                  generalize hFF : (s, vv) :: D1 = FF at *
                  have hqc : q ≤ c6 := Nat.le_trans (Nat.le_of_lt hlf) hc6
                  have HA6 := Lib.hid hA6
                  clear hA6 r6 k5 r5 hEE hFF hat
                  go_wp2_with fail
                  go_meet
                  exact ⟨_, _, HA6.out⟩
        case rest =>
          clear Hc H3 hnd hNb s1 s2 hlen hD5
          obtain ⟨N2, D2, hA2⟩ := hcut
          generalize hwx2 : wc = w7 at *
          clear hwx2
          have hlen := hA2.len
          obtain ⟨am2, cm2, rfl, -⟩ := hA2.1.view
          have hK := Lib.hid (keys_kv hA2.2.1 (fun x hx => by
            obtain ⟨y, -, rfl⟩ := List.mem_map.1 hx
            exact ⟨y.1, rfl⟩))
          have hL := Lib.hid (fun (w' : World) (h : Agree w c q (.slice am2 D2.length cm2) N2 D2 w') => len_kv h.2.1)
          rw [List.length_map] at hK hL
          have Hc := Lib.hid hA2; clear hA2
          go_wp2_with
            (first
              | (go_at_call 19; (with_reducible refine hK.out.mono ?_); rintro e w8 ⟨vk, rfl, hown, hb8⟩; have A8 := Hc.out.below hb8; obtain ⟨ak, kc, rfl, hcells, -⟩ := own_view hown)
              | (go_at_call 20; (with_reducible refine (hL.out _ A8).mono ?_); rintro e w9 ⟨rfl, rfl⟩)
              | fail)
          have Hcells := Lib.hid hcells
          have HA8 := Lib.hid A8
          clear hown hcells A8 hK hL
          go_loopw [21] (fun i wq => ∃ i' : Nat, i' ≤ D2.length ∧ i = .int .i64 i' ∧ Agree w c q (.slice am2 D2.length cm2) N2 D2 wq ∧ Below w9.heap.size w9 wq) (fun i _ => D2.length - (intOf i).toNat)
          case atStart => exact ⟨0, Nat.zero_le _, rfl, HA8.out, Below.refl _ _⟩
          case round =>
            obtain ⟨i, hi, rfl, hAi, hBi⟩ := hrel
            by_cases hil : i < D2.length
            · have wi1 : IntKind.i64.wrap ((i : Int) + 1) = (i : Int) + 1 := by rw [IntKind.wrap_i64]; omega
              obtain ⟨g, rfl, hci⟩ := Hcells.out i hil
              have hxi : ((D2.map enc).map Prod.fst)[i]? = some (.string D2[i].1) := by rw [enc_keys, List.getElem?_map, List.getElem?_eq_getElem hil]; rfl
              rw [hxi] at hci
              have hci' := (hBi.cell (p := ⟨g, i, none⟩) (World.block_lt_of_cell? _ _ hci)).trans hci
              obtain ⟨g2, o2, rfl, -, -, -, y0, -⟩ := hAi.1.at (List.getElem?_eq_getElem hil)
              have HAi := Lib.hid hAi
              clear hci hxi hAi
              generalize D2[i].1 = ks at *
              go_upto_region 52 with fail
              go_quiet (fail)
              go_wp2
              go_roundw
              case rel => exact ⟨i + 1, hil, rfl, HAi.out.drewN _, below_drewN hBi _⟩
              case measure => simp [intOf]; omega
            · obtain rfl : i = D2.length := by omega
              have HAi := Lib.hid hAi
              clear hAi
              go_wp2
              go_roundw
              case rel => exact ⟨k + 1, hkn, rfl, _, _, HAi.out⟩
              case measure => simp [intOf]; omega
    · obtain rfl : k = len1 := by omega
      have B := hA.2.2.2.2
      clear hA
      go_wp2
      go_ret
      exact ⟨rfl, B⟩
end Go.Proofs.Ytkbcfagggjfhhaa.CPlays
