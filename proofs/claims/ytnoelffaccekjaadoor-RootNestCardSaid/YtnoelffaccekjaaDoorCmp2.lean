/- nat.Cmp by its contract. Conditions: the lists are short, the limbs are limbs. -/
import Derived.Test.YtnoelffaccekjaaDoorCmp1
import Derived.Test.YtnoelffaccekjaaDoorRound
namespace Go.Proofs.YtnoelffaccekjaaDoor
open Go.RowKit Go.Shelf
attribute [local go_sem] Oper.semAt_some

theorem below_alloc (w : World) (o : Obj) : Below w.heap.size w (w.alloc o) := (Below.refl _ _).alloc (Nat.le_refl _) _

/-- Three boxes in a row: two slices and a result. -/
structure CB (b : Nat) (x y z : Value) (W : World) : Prop where
  h2 : W.heap[b]? = some (.cells #[x] 22 (0, 0))
  h3 : W.heap[b + 1]? = some (.cells #[y] 22 (0, 0))
  h4 : W.heap[b + 2]? = some (.cells #[z] 3 (0, 0))
theorem CB.below {b : Nat} {x y z : Value} {W W' : World} (h : CB b x y z W) (hb : Below W.heap.size W W') : CB b x y z W' := by
  have lt : b + 2 < W.heap.size := (Array.getElem?_eq_some_iff.1 h.h4).1
  exact ⟨(hb.block b (by omega)).trans h.h2, (hb.block (b + 1) (by omega)).trans h.h3, (hb.block (b + 2) lt).trans h.h4⟩
theorem CB.drew {b : Nat} {x y z : Value} {W : World} (h : CB b x y z W) : CB b x y z W.drew := ⟨h.h2, h.h3, h.h4⟩
theorem CB.new (w : World) (x y z : Value) : CB w.heap.size x y z (((w.alloc (.cells #[x] 22)).alloc (.cells #[y] 22)).alloc (.cells #[z] 3)) := by
  have a1 := heap_alloc_new w (.cells #[x] 22)
  have a2 := heap_alloc_new (w.alloc (.cells #[x] 22)) (.cells #[y] 22)
  have a3 := heap_alloc_new ((w.alloc (.cells #[x] 22)).alloc (.cells #[y] 22)) (.cells #[z] 3)
  rw [World.size_alloc] at a2 a3
  rw [World.size_alloc] at a3
  have b1 := (below_alloc (w.alloc (.cells #[x] 22)) (.cells #[y] 22)).block w.heap.size (by simp)
  have b2 := (below_alloc ((w.alloc (.cells #[x] 22)).alloc (.cells #[y] 22)) (.cells #[z] 3)).block
  exact ⟨(b2 w.heap.size (by simp; omega)).trans (b1.trans a1), (b2 (w.heap.size + 1) (by simp)).trans a2, a3⟩
theorem CB.c2 {b : Nat} {x y z : Value} {W : World} (h : CB b x y z W) : W.cell? ⟨b, 0, none⟩ = some x := cell_at h.h2 rfl
theorem CB.f2 {b : Nat} {x y z : Value} {W : World} (h : CB b x y z W) : W.frozen? ⟨b, 0, none⟩ = false := free_at h.h2
theorem CB.c3 {b : Nat} {x y z : Value} {W : World} (h : CB b x y z W) : W.cell? ⟨b + 1, 0, none⟩ = some y := cell_at h.h3 rfl
theorem CB.f3 {b : Nat} {x y z : Value} {W : World} (h : CB b x y z W) : W.frozen? ⟨b + 1, 0, none⟩ = false := free_at h.h3
theorem CB.c4 {b : Nat} {x y z : Value} {W : World} (h : CB b x y z W) : W.cell? ⟨b + 1 + 1, 0, none⟩ = some z := cell_at h.h4 rfl
theorem CB.f4 {b : Nat} {x y z : Value} {W : World} (h : CB b x y z W) : W.frozen? ⟨b + 1 + 1, 0, none⟩ = false := free_at h.h4
theorem CB.set {b : Nat} {x y z x' y' : Value} {W : World} (h : CB b x y z W) : CB b x' y' z ((W.setCell ⟨b, 0, none⟩ x').setCell ⟨b + 1, 0, none⟩ y') :=
  ⟨heap_setO (heap_setC h.h2 x') y' (by omega), heap_setC (heap_setO h.h3 x' (by omega)) y', heap_setO (heap_setO h.h4 x' (by omega)) y' (by omega)⟩

theorem compare_i {w : World} (x y : Nat) : Calls Tryd.prog 35 #[.int .i64 (x : Int), .int .i64 (y : Int)] w fun e w' => e = .returned (.int .i64 (cmpN x y)) ∧ w' = w := by
  have h := Tryd.cmp_Compare_int x y w
  have e : Lib.compareInt (x : Int) (y : Int) = cmpN x y := by
    unfold Lib.compareInt
    rcases Nat.lt_trichotomy x y with h | h | h
    · rw [cmpN_lt h, if_pos (by omega)]
    · subst h; rw [cmpN_eq, if_neg (by omega), if_neg (by omega)]
    · rw [cmpN_gt h, if_neg (by omega), if_pos (by omega)]
  rw [e] at h
  exact h

/-- A store of something that is no limb where no limb stood leaves limbs as they were. -/
theorem RdN.setOther {W : World} {v : Value} {s : List Nat} {p : Addr} {x : Value} (h : RdN W v s) (hp : W.cell? p = some x) (hx : ∀ n : Nat, x ≠ L64 n) (y : Value) : RdN (W.setCell p y) v s := by
  obtain ⟨a, c, h1, h2, h3, h4, h5⟩ := h
  refine ⟨a, c, h1, h2, h3, h4, fun j u hj => ?_⟩
  obtain ⟨g, off, e1, e2, e3⟩ := h5 j u hj
  refine ⟨g, off, e1, e2, ?_⟩
  rw [World.cell?_setCell_other _ _ _ _ (fun e => ?_)]
  · exact e3
  · rw [e, e3] at hp
    rw [List.getElem?_map] at hj
    cases hsj : s[j]? with
    | none => rw [hsj] at hj; simp at hj
    | some n =>
      rw [hsj] at hj
      simp only [Option.map_some, Option.some.injEq] at hj
      exact hx n (by rw [hj]; exact (Option.some.inj hp).symm)

set_option maxRecDepth 100000 in
set_option maxHeartbeats 2000000 in
theorem cmp_any {w : World} {v u : Value} {l m : List Nat} (hl : RdN w v l) (hm : RdN w u m) (hdl : Dig BB l) (hdm : Dig BB m) (h1 : l.length ≤ 100000) (h2 : m.length ≤ 100000) :
    Calls Tryd.prog 17 #[v, u] w (fun e w' => e = .returned (.int .i64 (cmpN (val BB l) (val BB m))) ∧ Below w.heap.size w w') := by
  have lA := digs_bound hdl h1 rfl
  have lB := digs_bound hdm h2 rfl
  have HA := Lib.hid (fun w' v (h : RdN w' v l) => bare_num h hdl h1)
  have HB := Lib.hid (fun w' v (h : RdN w' v m) => bare_num h hdm h2)
  generalize val BB l = A at *
  generalize val BB m = B at *
  have dA := dig_digs BB_two A
  have dB := dig_digs BB_two B
  have eA := val_digs BB_two A
  have eB := val_digs BB_two B
  have HL := Lib.hid (cmp_len BB_two (a := A) (b := B))
  generalize digs BB A = s at *
  generalize digs BB B = t at *
  obtain ⟨av, cv, rfl, -⟩ := hl.view
  obtain ⟨au, cu, rfl, -⟩ := hm.view
  have RL := Lib.hid hl; have RM := Lib.hid hm
  clear hl hm hdl hdm h1 h2
  refine (callsIn_wide (n := 6)).1 ?_
  refine callsIn_of_wp_marks Tryd.func17 rfl trivial ?_ rfl
  simp only [Tryd.ntmps17, List.size_toArray, List.length_cons, List.length_nil, Nat.reduceAdd, Nat.reduceSub, Array.replicate_succ, Array.replicate_zero, List.push_toArray, List.append_toArray, List.nil_append, List.cons_append]
  gi_wp2
  have hcb := CB.new w (.slice av l.length cv) (.slice au m.length cu) (.int .i64 0)
  have hB0 : Below w.heap.size w (((w.alloc (.cells #[.slice av l.length cv] 22)).alloc (.cells #[.slice au m.length cu] 22)).alloc (.cells #[.int .i64 0] 3)) := (((Below.refl _ w).alloc (Nat.le_refl _) _).alloc (by simp) _).alloc (by simp; omega) _
  generalize (((w.alloc (.cells #[.slice av l.length cv] 22)).alloc (.cells #[.slice au m.length cu] 22)).alloc (.cells #[.int .i64 0] 3)) = W0 at hcb hB0 ⊢
  have c2 := hcb.c2; have c3 := hcb.c3
  have R1 := RL.out.below hB0.drew
  have hmo : Tryd.prog.follows .mixedOrders = true := by kernel_rfl
  gi_region_with_o (first
    | (refine ⟨trivial, ?_⟩; gi_at_call 23; (with_reducible refine (callsIn_wide.2 (HA.out _ _ R1)).mono ?_); rintro e w1 ⟨v1, rfl, hr1, hb1⟩; clear R1; obtain ⟨a1, k1, rfl, -⟩ := hr1.view; have R2 := (RM.out.below hB0.drew).below hb1; have cb1 := hcb.drew.below hb1; have c3' := cb1.c3)
    | (refine ⟨trivial, ?_⟩; gi_at_call 23; (with_reducible refine (callsIn_wide.2 (HB.out _ _ R2)).mono ?_); rintro e w2 ⟨v2, rfl, hr2, hb2⟩; clear R2; obtain ⟨a2, k2, rfl, -⟩ := hr2.view; have cb2 := cb1.below hb2; have d2 := cb2.c2; have d3 := cb2.c3; have f2 := cb2.f2; have f3 := cb2.f3))
  all_goals
    have cb3 := cb2.set (x' := .slice a1 s.length k1) (y' := .slice a2 t.length k2)
    have B2 : Below w.heap.size w ((w2.setCell ⟨w.heap.size, 0, none⟩ (.slice a1 s.length k1)).setCell ⟨w.heap.size + 1, 0, none⟩ (.slice a2 t.length k2)) := by
      have h1 := hB0.drew.trans (hb1.mono hB0.drew.size)
      exact ((h1.trans (hb2.mono h1.size)).setCell (p := ⟨w.heap.size, 0, none⟩) (Nat.le_refl _) _).setCell (p := ⟨w.heap.size + 1, 0, none⟩) (Nat.le_succ _) _
    have RS : Hid (RdN ((w2.setCell ⟨w.heap.size, 0, none⟩ (.slice a1 s.length k1)).setCell ⟨w.heap.size + 1, 0, none⟩ (.slice a2 t.length k2)) (.slice a1 s.length k1) s) := Lib.hid (((hr1.below hb2).setOther d2 (by simp) _).setOther (x := .slice au m.length cu) (by rw [World.cell?_setCell_other _ _ _ _ (by simp)]; exact d3) (by simp) _)
    have RT : Hid (RdN ((w2.setCell ⟨w.heap.size, 0, none⟩ (.slice a1 s.length k1)).setCell ⟨w.heap.size + 1, 0, none⟩ (.slice a2 t.length k2)) (.slice a2 t.length k2) t) := Lib.hid ((hr2.setOther d2 (by simp) _).setOther (x := .slice au m.length cu) (by rw [World.cell?_setCell_other _ _ _ _ (by simp)]; exact d3) (by simp) _)
    generalize ((w2.setCell ⟨w.heap.size, 0, none⟩ (.slice a1 s.length k1)).setCell ⟨w.heap.size + 1, 0, none⟩ (.slice a2 t.length k2)) = W1 at *
    clear d2 d3 f2 f3 cb1 cb2 hcb c2 c3 c3' hr1 hr2 hb1 hb2 hB0
    have c2 := cb3.c2; have c3 := cb3.c3; have c4 := cb3.c4; have f4 := cb3.f4
    by_cases hlen : s.length = t.length
    · have HLEN := Lib.hid hlen
      rw [hlen] at c2 RS
      clear hlen
      gi_wp2_with (first
        | (refine ⟨trivial, ?_⟩; gi_at_call 35; (with_reducible refine (callsIn_wide.2 (compare_i _ _)).mono ?_); rw [HLEN.out, cmpN_eq]; rintro e w4 ⟨rfl, rfl⟩)
        | (refine ⟨trivial, ?_⟩; gi_at_call 36; (refine (back_in Fence.wide _ trivial rfl _ _ _ _).mono ?_); rintro e w5 ⟨rfl, rfl⟩))
      have hb5 := below_alloc w4 (.cells #[.slice a1 t.length k1] 22)
      have hc5 := cell_at (j := 0) (heap_alloc_new w4 (.cells #[.slice a1 t.length k1] 22)) rfl
      have hlt5 : w4.heap.size < (w4.alloc (.cells #[.slice a1 t.length k1] 22)).heap.size := by simp
      have B5 := B2.trans (hb5.mono B2.size)
      have RS5 := Lib.hid (RS.out.below hb5); have RT5 := Lib.hid (RT.out.below hb5)
      have cb5 := cb3.below hb5
      generalize hW5 : (w4.alloc (.cells #[.slice a1 t.length k1] 22)) = W5 at *
      clear c2 c3 c4 f4 cb3 hW5 RS RT hb5 B2
      have hlt := (Array.getElem?_eq_some_iff.1 cb5.h4).1
      refine wpIn_rangeFunc_ownG rfl (by omega) (gf := 48) (lb := #[.pointer (some ⟨w4.heap.size, 0, none⟩)]) rfl trivial (enters_of Tryd.func48 (by kernel_rfl) rfl)
        (back_stops Fence.wide _ trivial rfl (by omega) w4.heap.size _ s lA W5 hlt5 hc5 RS5.out) belowK_t (belowK_b (Nat.le_refl _)) (Below.refl _ _) (fun _ => rfl)
        (fun pre W => (∀ p ∈ pre, s.getD p.1 0 = t.getD p.1 0) ∧ Below W5.heap.size W5 W)
        (fun c pre W => (c = .ret ∧ ∃ ini last, pre = ini ++ [last] ∧ (∀ p ∈ ini, s.getD p.1 0 = t.getD p.1 0) ∧ s.getD last.1 0 ≠ t.getD last.1 0 ∧ W.cell? ⟨w.heap.size + 1 + 1, 0, none⟩ = some (.int .i64 (cmpN (s.getD last.1 0) (t.getD last.1 0)))) ∧ Below w.heap.size w W)
        (OwnFrom.and (fun s A B row hs hg hr => hs) (ownFrom_below (Nat.le_refl _) (Nat.le_refl _)))
        (fun c => OwnFrom.and (Own.from (fun s A B row hs hg hr => by obtain ⟨hc, ini, last, e1, e2, e3, e4⟩ := hs; exact ⟨hc, ini, last, e1, e2, e3, cell_kept e4 hg hr⟩) _) (ownFrom_below (Nat.le_refl _) B5.size))
        ⟨fun p hp => by simp at hp, Below.refl _ _⟩
        (fun x => { tmps := #[.slice av l.length cv, .slice au m.length cu, .pointer (some ⟨w.heap.size, 0, none⟩), .pointer (some ⟨w.heap.size + 1, 0, none⟩), .pointer (some ⟨w.heap.size + 1 + 1, 0, none⟩), .int .i64 0, .int .i64 (x.1 : Int), undef,
          .slice av l.length cv, .slice a1 t.length k1, .slice au m.length cu, .slice a2 t.length k2, .slice a1 t.length k1, .int .i64 t.length, .slice a2 t.length k2, .int .i64 t.length, .int .i64 0, .int .i64 0, .bool false, undef, .slice a1 t.length k1,
          .func (.func 48) #[] #[.pointer (some ⟨w4.heap.size, 0, none⟩)], .int .i64 (x.1 : Int), .int .u64 ((s[x.1]?.getD 0 : Nat) : Int), undef, undef, undef, undef, undef, undef, undef, undef, undef, undef, undef, undef], defers := [] }) ?assign ?body ?done ?stop
      case assign =>
        intro l x W K hK
        gi_wp2
        exact hK
      case body =>
        rintro l0 pre x W ⟨hpre, hB⟩ _
        have cb := cb5.below hB
        have c2 := cb.c2; have c3 := cb.c3; have c4 := cb.c4; have f4 := cb.f4
        obtain ⟨j, hj⟩ := x
        have hjt : j < t.length := by rw [← HLEN.out]; exact hj
        obtain ⟨a', c', e1, -, -, -, hcx⟩ := (RS5.out.below hB).view
        injection e1 with e1 e2 e3; subst e1 e3
        obtain ⟨g, of, rfl, hg, hcx⟩ := hcx j hj
        obtain ⟨a', c', f1, -, -, -, hcy⟩ := (RT5.out.below hB).view
        injection f1 with f1 f2 f3; subst f1 f3
        obtain ⟨g', of', rfl, hg', hcy⟩ := hcy j hjt
        clear e2 f2
        have es : s.getD j 0 = s[j]?.getD 0 := List.getD_eq_getElem?_getD
        have et : t.getD j 0 = t[j]?.getD 0 := List.getD_eq_getElem?_getD
        dsimp only
        generalize s[j]?.getD 0 = xs at *
        generalize t[j]?.getD 0 = ys at *
        have ES := Lib.hid es; have ET := Lib.hid et; clear es et
        have hn0 : ∀ nq, (W.drewN nq).cell? ⟨g, of + j, none⟩ = some (L64 xs) := fun _ => hcx
        by_cases hxy : xs = ys
        · subst hxy
          gi_wp2
          refine wpIn_region_quiet_round rfl (by kernel_rfl) (by kernel_rfl) (by kernel_rfl) ?_
          repeat
            refine wpQuietIn_step (asked_wide _ _ _ _) (fun K hK => ?_)
            go_simp
            first
              | (refine hK _ ?_; clear hK K)
              | (apply Exists.intro
                 refine ⟨fun _ => ?_, hK _ ?_⟩
                 (gi_at_call 37; refine CallsIn.quiet_of_same (callsIn_wide.2 (compare_u _ _)))
                 clear hK K)
          refine wpQuietIn_nil ?_
          rintro _ ⟨nq, rfl⟩
          rw [cmpN_eq]
          gi_wp2
          exact ⟨(⟨Nat.le_refl _, fun _ _ h _ => h⟩ : KeepsOthers W (W.drewN nq)).from _, below_drewN (Below.refl _ _) nq, fun p hp => (List.mem_append.1 hp).elim (hpre p) (fun e => by
            simp only [List.mem_singleton] at e
            subst e
            show s.getD j 0 = t.getD j 0
            rw [ES.out, ET.out]), below_drewN hB nq⟩
        · have cz : (cmpN xs ys != 0) = true := by
            rcases Nat.lt_or_gt_of_ne hxy with h | h
            · rw [cmpN_lt h]; rfl
            · rw [cmpN_gt h]; rfl
          gi_wp2
          refine wpIn_region_quiet_round rfl (by kernel_rfl) (by kernel_rfl) (by kernel_rfl) ?_
          repeat
            refine wpQuietIn_step (asked_wide _ _ _ _) (fun K hK => ?_)
            go_simp
            first
              | (refine hK _ ?_; clear hK K)
              | (apply Exists.intro
                 refine ⟨fun _ => ?_, hK _ ?_⟩
                 (gi_at_call 37; refine CallsIn.quiet_of_same (callsIn_wide.2 (compare_u _ _)))
                 clear hK K)
          refine wpQuietIn_nil ?_
          rintro _ ⟨nq, rfl⟩
          have c4' : (W.drewN nq).cell? ⟨w.heap.size + 1 + 1, 0, none⟩ = some (.int .i64 0) := c4
          have f4' : (W.drewN nq).frozen? ⟨w.heap.size + 1 + 1, 0, none⟩ = false := f4
          have kd : KeepsOthers W (W.drewN nq) := ⟨Nat.le_refl _, fun _ _ h _ => h⟩
          have Bd : Below w.heap.size w (W.drewN nq) := below_drewN (B5.trans (hB.mono B5.size)) nq
          have hne : s.getD j 0 ≠ t.getD j 0 := by rw [ES.out, ET.out]; exact hxy
          have hcc : cmpN xs ys = cmpN (s.getD j 0) (t.getD j 0) := by rw [ES.out, ET.out]
          have HNE := Lib.hid hne; have HCC := Lib.hid hcc; clear hne hcc
          generalize W.drewN nq = Wd at *
          gi_wp2
          exact ⟨(kd.trans (KeepsOthers.setCell _ _ _)).from _, ⟨rfl, pre, ⟨j, hj⟩, rfl, hpre, HNE.out, by rw [← HCC.out]; exact World.cell?_setCell_same' _ _ _ (by rw [c4']; rfl)⟩, Bd.setCell (p := ⟨w.heap.size + 1 + 1, 0, none⟩) (by simp; omega) _⟩
      case done =>
        rintro D ys W hD hys ⟨hall, hB⟩ hK
        have E : cmpN A B = 0 := by
          rw [← eA, ← eB]
          refine cmp_same HLEN.out (fun i hi => ?_)
          have hm := came_mem (k := s.length) hi (by omega)
          rw [← hys] at hm
          obtain ⟨p, hp, rfl⟩ := List.mem_map.1 hm
          exact hall p hp
        have HE := Lib.hid E; clear E
        have cb := cb5.below hB
        have c4 := cb.c4; have f4 := cb.f4
        have Bw := B5.trans (hB.mono B5.size)
        gi_wp2
        have hK' := (KeepsOthers.setCell W ⟨w.heap.size + 1 + 1, 0, none⟩ (.int .i64 0)).same D _ hK rfl
        refine ⟨by simp, .inl ⟨_, _, rfl, run_takeDeferred hK', ?_⟩⟩
        have hc5 := cell_kept (World.cell?_setCell_same' W ⟨w.heap.size + 1 + 1, 0, none⟩ (.int .i64 0) (by rw [c4]; rfl)) (grownBy_putObj' _ D (.deferred none)) (fun r e => by cases e; exact ⟨_, hK', rfl⟩)
        refine ⟨.int .i64 0, ?_, by rw [HE.out], (Bw.setCell (p := ⟨w.heap.size + 1 + 1, 0, none⟩) (by simp; omega) _).trans (belowK_b (w := w) (Nat.le_refl _) _ D _ _ (Nat.le_trans B5.size hD) hK' rfl rfl)⟩
        simp [results, Tryd.f17, go_sem, hc5]
      case stop =>
        rintro D c pre W hD ⟨k, hk, hpre⟩ ⟨⟨rfl, ini, last, e1, e2, e3, hcr⟩, hB⟩ hK
        have E : cmpN (s.getD last.1 0) (t.getD last.1 0) = cmpN A B := by
          rw [← eA, ← eB]
          refine cmp_top dA dB HLEN.out last.2 (fun i hi => ?_) e3
          by_cases his : i < s.length
          · obtain ⟨k', rfl⟩ : ∃ k', k = k' + 1 := by
              cases k with
              | zero =>
                have := congrArg List.length hpre
                rw [e1] at this; simp [came] at this
              | succ k' => exact ⟨k', rfl⟩
            rw [e1, List.map_append, came_succ] at hpre
            obtain ⟨h1, h2⟩ := List.append_inj' hpre rfl
            have h2 : last.1 = s.length - 1 - k' := by simpa using h2
            have hm := came_mem (n := s.length) (k := k') his (by omega)
            rw [← h1] at hm
            obtain ⟨p, hp, rfl⟩ := List.mem_map.1 hm
            exact e2 p hp
          · rw [List.getD_eq_getElem?_getD, List.getD_eq_getElem?_getD, List.getElem?_eq_none (by omega), List.getElem?_eq_none (by have := HLEN.out; omega)]
        rw [E] at hcr
        have HE := Lib.hid E; clear E
        gi_wp2
        refine ⟨by simp, .inl ⟨_, _, rfl, run_takeDeferred hK, ?_⟩⟩
        have hc5 := cell_kept hcr (grownBy_putObj' _ D (.deferred none)) (fun r e => by cases e; exact ⟨_, hK, rfl⟩)
        refine ⟨.int .i64 (cmpN A B), ?_, rfl, hB.trans (belowK_b (w := w) (Nat.le_refl _) W D _ _ (Nat.le_trans B5.size hD) hK rfl rfl)⟩
        simp [results, Tryd.f17, go_sem, hc5]
    · have hc := HL.out hlen
      have hc0 : (cmpN A B != 0) = true := by
        rw [← hc]
        rcases Nat.lt_or_gt_of_ne hlen with h | h
        · rw [cmpN_lt h]; rfl
        · rw [cmpN_gt h]; rfl
      gi_wp2_with (refine ⟨trivial, ?_⟩; gi_at_call 35; (with_reducible refine (callsIn_wide.2 (compare_i _ _)).mono ?_); rw [hc]; rintro e w4 ⟨rfl, rfl⟩)
      have hc5 : (w4.setCell ⟨w.heap.size + 1 + 1, 0, none⟩ (.int .i64 (cmpN A B))).cell? ⟨w.heap.size + 1 + 1, 0, none⟩ = some (.int .i64 (cmpN A B)) := World.cell?_setCell_same' _ _ _ (by rw [c4]; rfl)
      exact ⟨.int .i64 (cmpN A B), by simp [results, Tryd.f17, go_sem, hc5], rfl, B2.setCell (p := ⟨w.heap.size + 1 + 1, 0, none⟩) (by simp; omega) _⟩
end Go.Proofs.YtnoelffaccekjaaDoor
