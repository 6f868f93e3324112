/- What the functions of a cache of string and int do, by their contracts. Conditions: as each says. -/
import Derived.Test.YtkbcfagggjfhhaaChecked
import Derived.Test.YtkbcfagggjfhhaaCacBase
import Derived.KernelRfl
import Derived.Deep.RegionHeld3
import Derived.OwnWalk
import Derived.Lib.Hide
import Derived.BigRegion
import Derived.Deep.CutBlock
import Derived.Deep.DeepCutAuto
namespace Go.Proofs.Ytkbcfagggjfhhaa.Csi
set_option maxRecDepth 100000
open Go.RowKit Go.Proofs.Ytkbcfagggjfhhaa
open Go.Maps (Keyed Tidy IsMap)

abbrev Tc : TypeId := 79
abbrev Tn : TypeId := 76
abbrev kT : TypeId := 9
theorem KY : Keyed Try.prog kT := Maps.string_keyed Try.underlying9

section
variable {f : Nat → Node} {S : List Nat} {w : World} {n r c mb most : Nat}

theorem out_n (h : Nodes Tn f S w) (hn : n ∈ S) (hy : (f n).y ∈ S) (he : (f n).e ∈ S) (ny : (f n).y ≠ n) (ne : (f n).e ≠ n) :
    Calls Try.prog 31 #[.pointer (some ⟨n, 0, none⟩)] w fun e w' => e = .returned (.tuple #[]) ∧ Nodes Tn (outL f n) S w' ∧ Fr (fun k => k ∈ S) w w' := by
  obtain ⟨-, -, c2, c3, -, -, -, -⟩ := h.open hn
  obtain ⟨-, -, -, cy, -, -, -, fy⟩ := h.open hy
  obtain ⟨-, -, ce, -, -, -, fe, -⟩ := h.open he
  have hs := h.setE hy (f n).e
  obtain ⟨-, -, d2, d3, -, -, -, -⟩ := hs.open hn
  rw [setE_y] at d2
  rw [setE_e, if_neg ny.symm] at d3
  have hR := hs.setY he (f n).y
  obtain ⟨-, -, g2, g3, -, -, -, -⟩ := hR.open hn
  rw [setY_y, if_neg ne.symm, setE_y] at g2
  rw [setY_e, setE_e, if_neg ny.symm] at g3
  have hF := (((Fr.refl (fun k => k ∈ S) w).setCell (p := ⟨(f n).y, 3, none⟩) hy (Ptr (f n).e)).setCell (p := ⟨(f n).e, 2, none⟩) he (Ptr (f n).y)).drew
  unfold outL
  generalize (f n).y = y at *
  generalize (f n).e = e at *
  generalize setY (setE f y e) e y = g at *
  generalize (f e).y = ey at *
  generalize (f y).e = ye at *
  unfold Ptr at *
  have H1 := Lib.hid hR; have H2 := Lib.hid hF
  have k2 := Lib.hid (And.intro d2 d3); have k3 := Lib.hid (And.intro g2 g3)
  clear hR hF h hs d2 d3 g2 g3
  go_enter Try.func31, Try.ntmps31
  go_region_held3 (fun w' => w'.cell? ⟨n, 2, none⟩ = some (.pointer (some ⟨y, 0, none⟩)) ∧ w'.cell? ⟨n, 3, none⟩ = some (.pointer (some ⟨e, 0, none⟩))) (first | exact ⟨c2, c3⟩ | exact k2.out | exact k3.out) (fail)
  all_goals
    go_wp2_with fail
    go_end0
    exact ⟨rfl, H1.out, H2.out⟩

set_option maxHeartbeats 1000000 in
theorem in_n {k v a b : Value} (h : Nodes Tn f S w) (hr : r ∈ S) (ho : (f r).e ∈ S) (hn : n ∉ S) (hb : w.heap[n]? = some (.cells #[k, v, a, b] Tn (0, 0))) (hc : w.heap[c]? = some (.cells #[.int .i64 (most : Int), .map (some mb), Ptr r] Tc (0, 0))) :
    Calls Try.prog 32 #[.pointer (some ⟨c, 0, none⟩), .pointer (some ⟨n, 0, none⟩)] w fun e w' => e = .returned (.tuple #[]) ∧ Nodes Tn (inL (lay f n k v) r n) (n :: S) w' ∧ Fr (fun k => k ∈ n :: S) w w' := by
  have q2 : w.cell? ⟨c, 2, none⟩ = some (Ptr r) := cell_at hc rfl
  have cS : c ∉ n :: S := fun hm => by
    rcases List.mem_cons.1 hm with rfl | hm
    · rw [hc] at hb
      simp only [Option.some.injEq, Obj.cells.injEq] at hb
      exact absurd hb.2.1 (by decide)
    · have := h c hm
      rw [hc] at this
      simp only [Option.some.injEq, Obj.cells.injEq] at this
      exact absurd this.2.1 (by decide)
  have nr : n ≠ r := fun e => hn (e ▸ hr)
  have no : n ≠ (f r).e := fun e => hn (e ▸ ho)
  obtain ⟨-, -, -, cr3, -, -, -, -⟩ := h.open hr
  have cn2 := cell_at (j := 2) (v := a) hb rfl
  have cn3 := cell_at (j := 3) (v := b) hb rfl
  have fn2 := free_at (j := 2) hb
  have fn3 := free_at (j := 3) hb
  have F1 := (Fr.refl (fun k => k ∈ n :: S) w).setCell (p := ⟨n, 2, none⟩) (List.mem_cons_self) (Ptr r)
  have q1 := F1.at_cell q2 cS
  have r1 : (w.setCell ⟨n, 2, none⟩ (Ptr r)).cell? ⟨r, 3, none⟩ = some (Ptr (f r).e) := cell_at (heap_setO (h r hr) _ nr.symm) rfl
  have h2 := nodes_new (x := r) (z := (f r).e) h hn hb
  have F2 := (F1.setCell (p := ⟨n, 3, none⟩) (List.mem_cons_self) (Ptr (f r).e)).drew
  have q22 := F2.at_cell q2 cS
  obtain ⟨-, -, -, r2, -, -, -, -⟩ := h2.open (List.mem_cons_of_mem _ hr)
  rw [setE_e, if_neg nr.symm, setY_e, lay_e _ nr.symm] at r2
  have hgn : (setE (setY (lay f n k v) n r) n (f r).e n).y = r ∧ (setE (setY (lay f n k v) n r) n (f r).e n).e = (f r).e := ⟨by rw [setE_y, setY_y, if_pos rfl], by rw [setE_e, if_pos rfl]⟩
  have hlr : (lay f n k v r).e = (f r).e := lay_e _ nr.symm
  unfold inL
  rw [hlr]
  clear hlr
  generalize hfo : (f r).e = o at *
  generalize hg : setE (setY (lay f n k v) n r) n o = g at *
  unfold Ptr at *
  have H1 := Lib.hid h2; have H2 := Lib.hid F2
  have k0 := Lib.hid (And.intro q2 cr3); have k1 := Lib.hid (And.intro q1 r1); have k2 := Lib.hid (And.intro q22 r2)
  clear h h2 F1 F2 q1 r1 hc hb q22 r2 hfo hg
  have hn' : n ∈ n :: S := List.mem_cons_self
  have hr' : r ∈ n :: S := List.mem_cons_of_mem _ hr
  have ho' : o ∈ n :: S := List.mem_cons_of_mem _ ho
  generalize n :: S = S' at *
  go_enter Try.func32, Try.ntmps32
  go_upto_region 0 with fail
  go_cut [] (fun w1 => Nodes Tn g S' w1 ∧ Fr (fun k => k ∈ S') w w1)
  case first =>
    go_region_held3 (fun w' => w'.cell? ⟨c, 2, none⟩ = some (.pointer (some ⟨r, 0, none⟩)) ∧ w'.cell? ⟨r, 3, none⟩ = some (.pointer (some ⟨o, 0, none⟩))) (first | exact k0.out | exact k1.out | exact k2.out) (fail)
    all_goals
      go_wp2_with fail
      go_meet
      exact ⟨H1.out, H2.out⟩
  case rest =>
    clear H1 H2 k0 k1 k2 q2 cr3 cn2 cn3 fn2 fn3
    obtain ⟨h2, F2⟩ := hcut
    generalize hwx : wc = w1 at *
    clear hwx
    obtain ⟨-, -, s2, s3, -, -, -, -⟩ := h2.open hn'
    obtain ⟨-, -, -, r3, -, -, -, fr3⟩ := h2.open hr'
    obtain ⟨-, -, o2, -, -, -, fo2, -⟩ := h2.open ho'
    rw [hgn.1] at s2
    rw [hgn.2] at s3
    have h3 := h2.setE hr' n
    have F3 := F2.setCell (p := ⟨r, 3, none⟩) hr' (Ptr n)
    obtain ⟨-, -, t2, t3, -, -, -, -⟩ := h3.open hn'
    rw [setE_y, hgn.1] at t2
    rw [setE_e, if_neg nr, hgn.2] at t3
    have h4 := h3.setY ho' n
    have F4 := (F3.setCell (p := ⟨o, 2, none⟩) ho' (Ptr n)).drew
    obtain ⟨-, -, u2, u3, -, -, -, -⟩ := h4.open hn'
    rw [setY_y, if_neg no, setE_y, hgn.1] at u2
    rw [setY_e, setE_e, if_neg nr, hgn.2] at u3
    generalize (g r).e = x1 at *
    generalize (g o).y = x2 at *
    unfold Ptr at *
    have H1 := Lib.hid h4; have H2 := Lib.hid F4
    have l0 := Lib.hid (And.intro s2 s3); have l1 := Lib.hid (And.intro t2 t3); have l2 := Lib.hid (And.intro u2 u3)
    clear h2 h3 h4 F2 F3 F4 t2 t3 u2 u3 hgn
    go_upto_region 1 with fail
    go_region_held3 (fun w' => w'.cell? ⟨n, 2, none⟩ = some (.pointer (some ⟨r, 0, none⟩)) ∧ w'.cell? ⟨n, 3, none⟩ = some (.pointer (some ⟨o, 0, none⟩))) (first | exact l0.out | exact l1.out | exact l2.out) (fail)
    all_goals
      go_wp2_with fail
      go_end0
      exact ⟨rfl, H1.out, H2.out⟩

theorem zeroP (w : World) : (zeroValue 74).run Try.prog w = .ok (.pointer none) w := by kernel_rfl
abbrev C (c mb r most : Nat) (L : List It) (w : World) : Prop := Cac Try.prog Tc Tn kT c mb r most L w
theorem dT : Tc ≠ Tn := by decide
theorem keyK {kk : ByteArray} (hk : kk.size ≤ maxLen) : keyOf Try.prog kT (.string kk) = some (.string kk.data.toList) := Go.WideMaps.keyOf_string_mk Try.underlying9 hk

section
variable {c mb r most : Nat} {L L0 l1 l2 : List It} {it : It} {w : World}
/-- The item's node is taken out and laid ahead, with the value v; then 'go on'. -/
theorem in_again {f : Nat → Node} {w1 : World} (h : C c mb r most (l1 ++ it :: l2) w) (t : Takes Try.prog Tc Tn kT c mb r most l1 l2 it f w) (hN : Nodes Tn (outL f (bl it)) (r :: (l1 ++ it :: l2).map bl) w1) (hF : Fr (fun k => k ∈ r :: (l1 ++ it :: l2).map bl) w w1) :
    Calls Try.prog 32 #[.pointer (some ⟨c, 0, none⟩), .pointer (some ⟨bl it, 0, none⟩)] w1 fun e w' => e = .returned (.tuple #[]) ∧ C c mb r most (it :: (l1 ++ l2)) w' ∧ Fr (fun k => k ∈ r :: (l1 ++ it :: l2).map bl) w w' ∧ w'.cell? ⟨bl it, 1, none⟩ = some it.2.1 := by
  have hb := hN (bl it) t.mem
  refine (in_n (hN.sub t.sub) List.mem_cons_self t.first t.out hb (h.stands dT hF)).mono ?_
  rintro e w2 ⟨rfl, n2, F2⟩
  have F3 : Fr (fun k => k ∈ r :: (l1 ++ it :: l2).map bl) w w2 := hF.trans (F2.sets (fun k hk => by
    rcases List.mem_cons.1 hk with rfl | hk
    · exact t.mem
    · exact t.sub k hk))
  have hk : (outL f (bl it) (bl it)).k = it.1 := by rw [outL_k, t.key]
  have hv : (outL f (bl it) (bl it)).v = it.2.1 := by rw [outL_v, t.val]
  rw [hk, hv] at n2
  refine ⟨rfl, Cac.front (h.stands dT F3) t.cyc t.out t.vals n2 (h.perm_map F3 it.2.1) (by have := h.full; simp at this ⊢; omega) h.le, F3, ?_⟩
  obtain ⟨-, c1, -⟩ := n2.open List.mem_cons_self
  rw [c1, inL_v]
  simp [lay]
theorem in_set {f : Nat → Node} {w1 : World} (h : C c mb r most (l1 ++ it :: l2) w) (t : Takes Try.prog Tc Tn kT c mb r most l1 l2 it f w) (hN : Nodes Tn (outL f (bl it)) (r :: (l1 ++ it :: l2).map bl) w1) (hF : Fr (fun k => k ∈ r :: (l1 ++ it :: l2).map bl) w w1) (v : Value) :
    Calls Try.prog 32 #[.pointer (some ⟨c, 0, none⟩), .pointer (some ⟨bl it, 0, none⟩)] (w1.setCell ⟨bl it, 1, none⟩ v) fun e w' => e = .returned (.tuple #[]) ∧ C c mb r most ((it.1, v, bl it) :: (l1 ++ l2)) w' ∧ Fr (fun k => k ∈ r :: (l1 ++ it :: l2).map bl) w w' := by
  have hb := heap_setC (j := 1) (hN (bl it) t.mem) v
  have F1 := hF.setCell (p := ⟨bl it, 1, none⟩) t.mem v
  refine (in_n (k := (outL f (bl it) (bl it)).k) (v := v) ((hN.sub t.sub).setO t.out v) List.mem_cons_self t.first t.out hb (h.stands dT F1)).mono ?_
  rintro e w2 ⟨rfl, n2, F2⟩
  have F3 : Fr (fun k => k ∈ r :: (l1 ++ it :: l2).map bl) w w2 := F1.trans (F2.sets (fun k hk => by
    rcases List.mem_cons.1 hk with rfl | hk
    · exact t.mem
    · exact t.sub k hk))
  have hk : (outL f (bl it) (bl it)).k = it.1 := by rw [outL_k, t.key]
  rw [hk] at n2
  exact ⟨rfl, Cac.front (h.stands dT F3) t.cyc t.out t.vals n2 (h.perm_map F3 v) (by have := h.full; simp at this ⊢; omega) h.le, F3⟩

theorem find_found {kk : ByteArray} (h : C c mb r most (l1 ++ it :: l2) w) (hk : it.1 = (.string kk)) :
    Calls Try.prog 14 #[.pointer (some ⟨c, 0, none⟩), (.string kk)] w fun e w' => e = .returned (.tuple #[it.2.1, .bool true]) ∧ C c mb r most (it :: (l1 ++ l2)) w' ∧ Fr (fun k => k ∈ r :: (l1 ++ it :: l2).map bl) w w' := by
  obtain ⟨f, t⟩ := h.takes
  obtain ⟨-, q1, -⟩ := h.cells
  have hl := h.map.look_there (v := (.string kk)) (b := bl it) KY Try.underlying77 (zeroP w) (List.mem_map.2 ⟨it, by simp, by simp [kb, bl, hk]⟩)
  unfold Ptr at *
  have HA := Lib.hid (fun w1 => in_again (w1 := w1) h t)
  have HO := Lib.hid (out_n t.all t.mem t.hy t.he t.ny t.ne)
  clear h t hk
  generalize bl it = b at *
  generalize it.2.1 = v at *
  go_enter Try.func14, Try.ntmps14
  go_wp2_with
    (first
      | (go_at_call 31; (with_reducible refine HO.out.mono ?_); rintro e w1 ⟨rfl, n1, F1⟩)
      | (go_at_call 32; (with_reducible refine (HA.out _ n1 F1).mono ?_); rintro e w2 ⟨rfl, n2, F2, c1⟩)
      | fail)
  go_ret2
  exact ⟨rfl, n2, F2⟩

theorem find_none {kk : ByteArray} (hk : kk.size ≤ maxLen) (h : C c mb r most L w) (hn : (.string kk) ∉ L.map Prod.fst) :
    Calls Try.prog 14 #[.pointer (some ⟨c, 0, none⟩), (.string kk)] w fun e w' => e = .returned (.tuple #[.int .i64 0, .bool false]) ∧ w' = w := by
  obtain ⟨-, q1, -⟩ := h.cells
  have hl := h.map.look_none (v := (.string kk)) KY Try.underlying77 (zeroP w) (keyK hk) (by rw [List.map_map]; exact hn)
  unfold Ptr at *
  clear h hn hk
  go_enter Try.func14, Try.ntmps14
  go_wp2_with fail
  go_ret2
  exact ⟨rfl, rfl⟩
theorem find_nil {kk : ByteArray} : Calls Try.prog 14 #[.pointer none, (.string kk)] w fun e w' => e = .returned (.tuple #[.int .i64 0, .bool false]) ∧ w' = w := by
  go_enter Try.func14, Try.ntmps14
  go_wp2_with fail
  go_ret2
  exact ⟨rfl, rfl⟩
theorem put_nil {kk : ByteArray} {vv : Int} : Calls Try.prog 18 #[.pointer none, (.string kk), (.int .i64 vv)] w fun e w' => e = .returned (.tuple #[.string ⟨#[]⟩, .bool false, .int .i64 3]) ∧ w' = w := by
  go_enter Try.func18, Try.ntmps18
  go_wp2_with fail
  go_ret3
  exact ⟨rfl, rfl⟩
theorem len_nil : Calls Try.prog 20 #[.pointer none] w fun e w' => e = .returned (.int .i64 0) ∧ w' = w := by
  go_enter Try.func20, Try.ntmps20
  go_wp2_with fail
  go_ret
  exact ⟨rfl, rfl⟩
theorem keys_nil : Calls Try.prog 19 #[.pointer none] w fun e w' => e = .returned (.slice none 0 0) ∧ w' = w := by
  go_enter Try.func19, Try.ntmps19
  go_wp2_with fail
  go_ret
  exact ⟨rfl, rfl⟩
theorem len_n (h : C c mb r most L w) : Calls Try.prog 20 #[.pointer (some ⟨c, 0, none⟩)] w fun e w' => e = .returned (.int .i64 (L.length : Int)) ∧ w' = w := by
  obtain ⟨-, q1, -⟩ := h.cells
  have hlen := h.map.len (P := Try.prog) (e := 74) (t := 77) Try.underlying77
  rw [List.length_map] at hlen
  clear h
  go_enter Try.func20, Try.ntmps20
  go_wp2_with fail
  go_ret
  exact ⟨rfl, rfl⟩
theorem new_arg {m : Int} (h : m < 1 ∨ 4096 < m) : Calls Try.prog 12 #[.int .i64 m] w fun e w' => e = .returned (.tuple #[.pointer none, .int .i64 1]) ∧ w' = w := by
  by_cases h1 : m < 1
  · clear h
    go_enter Try.func12, Try.ntmps12
    go_wp2_with fail
    go_ret2
    exact ⟨rfl, rfl⟩
  · have h2 : 4096 < m := by omega
    clear h
    go_enter Try.func12, Try.ntmps12
    go_wp2_with fail
    go_ret2
    exact ⟨rfl, rfl⟩
theorem new_ok (h1 : 1 ≤ most) (h2 : most ≤ 4096) : Calls Try.prog 12 #[.int .i64 (most : Int)] w fun e w' => ∃ c mb r, e = .returned (.tuple #[.pointer (some ⟨c, 0, none⟩), .int .i64 0]) ∧ C c mb r most [] w' ∧ Below w.heap.size w w' ∧ (∀ k, cacS c mb r [] k → w.heap.size ≤ k) := by
  have d1 : decide ((most : Int) < 1) = false := decide_eq_false (by omega)
  have d2 : decide (4096 < (most : Int)) = false := decide_eq_false (by omega)
  have hmm := @run_makeMap Try.prog
  go_enter Try.func12, Try.ntmps12
  go_wp2_with fail
  go_ret2
  refine ⟨_, _, _, rfl, cac_new h2, ((((Below.refl _ w).alloc (Nat.le_refl _) _).alloc (by simp) _).alloc (by simp; omega) _), ?_⟩
  rintro k (rfl | rfl | hk)
  · omega
  · omega
  · simp only [List.map_nil, List.mem_cons, List.not_mem_nil, or_false] at hk
    omega

theorem put_found {kk : ByteArray} {vv : Int} (h : C c mb r most (l1 ++ it :: l2) w) (hm : (l1 ++ it :: l2).length ≤ most) (hk : it.1 = (.string kk)) :
    Calls Try.prog 18 #[.pointer (some ⟨c, 0, none⟩), (.string kk), (.int .i64 vv)] w fun e w' => e = .returned (.tuple #[.string ⟨#[]⟩, .bool false, .int .i64 0]) ∧ C c mb r most (((.string kk), (.int .i64 vv), bl it) :: (l1 ++ l2)) w' ∧ Fr (fun k => k ∈ r :: (l1 ++ it :: l2).map bl) w w' := by
  obtain ⟨f, t⟩ := h.takes
  obtain ⟨-, q1, -⟩ := h.cells
  have hl := h.map.look_there (v := (.string kk)) (b := bl it) KY Try.underlying77 (zeroP w) (List.mem_map.2 ⟨it, by simp, by simp [kb, bl, hk]⟩)
  have HA := Lib.hid (fun w1 n1 F1 => in_set (w1 := w1) h t n1 F1 (.int .i64 vv))
  rw [hk] at HA
  have hlen : (((.string kk), (.int .i64 vv), bl it) :: (l1 ++ l2) : List It).length = (l1 ++ it :: l2).length := by simp; omega
  rw [← hlen] at hm
  generalize hL : (((.string kk), (.int .i64 vv), bl it) :: (l1 ++ l2) : List It) = L' at *
  have dm : L'.length ≤ most := hm
  have HO := Lib.hid (out_n t.all t.mem t.hy t.he t.ny t.ne)
  have HB := Lib.hid t.mem
  unfold Ptr at *
  clear h t hk hL hlen hm
  generalize r :: List.map bl (l1 ++ it :: l2) = S at *
  generalize bl it = b at *
  go_enter Try.func18, Try.ntmps18
  go_upto_region 11 with
    (first
      | (go_at_call 31; (with_reducible refine HO.out.mono ?_); rintro e w1 ⟨rfl, n1, F1⟩; obtain ⟨-, z1, -, -, -, y1, -, -⟩ := n1.open HB.out)
      | (go_at_call 32; (with_reducible refine (HA.out _ n1 F1).mono ?_); rintro e w2 ⟨rfl, n2, F2⟩; obtain ⟨p0, p1, -⟩ := n2.cells; have hlen := PMap.len (w := w2.drew) (P := Try.prog) n2.map (e := 74) (t := 77) Try.underlying77; rw [List.length_map] at hlen)
      | fail)
  go_region_held3 (fun w' => w'.cell? ⟨c, 0, none⟩ = some (.int .i64 (most : Int)) ∧ w'.cell? ⟨c, 1, none⟩ = some (.map (some mb)) ∧ (Builtin.len_ #[77] 3 #[.map (some mb)]).run Try.prog w' = .ok (.int .i64 (L'.length : Int)) w') (exact ⟨p0, p1, hlen 3⟩) (fail)
  all_goals
    go_wp2_with fail
    go_ret3
    exact ⟨rfl, n2.drew, F2.drew⟩

/-- A node of the call's own, laid ahead of all others. -/
theorem in_fresh {kx : Value} {w1 : World} {v0 v : Value} (h : C c mb r most L w) (hl : L.length ≤ most) (hb : w1.heap[w.heap.size]? = some (.cells #[kx, v0, .pointer none, .pointer none] Tn (0, 0))) (F : Fr (fun k => k = mb) w w1) (hm : PMap Try.prog kT mb ((kx, w.heap.size) :: L.map kb) w1) :
    Calls Try.prog 32 #[.pointer (some ⟨c, 0, none⟩), .pointer (some ⟨w.heap.size, 0, none⟩)] (w1.setCell ⟨w.heap.size, 1, none⟩ v) fun e w' => e = .returned (.tuple #[]) ∧ C c mb r most ((kx, v, w.heap.size) :: L) w' ∧ Fr (cacW mb r L) w w' := by
  obtain ⟨f, h1, h2, h3⟩ := h.ring
  have hlt : ∀ k, cacS c mb r L k → k < w.heap.size := fun k hk => h.lt hk
  have hnS : w.heap.size ∉ r :: L.map bl := fun hm => by have := hlt _ (.inr (.inr hm)); omega
  have hcm : c ≠ mb := fun e => h.nc dT (.inl e)
  have n1 := (h1.keep F (fun b hb e => h.nm (e ▸ hb))).setO (j := 1) hnS v
  have c1 := heap_setO (j := 1) (F.at h.blk hcm) v (show c ≠ w.heap.size by have := hlt c (.inl rfl); omega)
  have b1 := heap_setC (j := 1) hb v
  refine (in_n (k := kx) (v := v) (a := .pointer none) (b := .pointer none) n1 List.mem_cons_self h2.mem_first hnS b1 c1).mono ?_
  rintro e w2 ⟨rfl, n2, F2⟩
  have G : Fr (fun k => k ∈ w.heap.size :: r :: L.map bl) w1 w2 := ((Fr.refl _ w1).setCell (p := ⟨w.heap.size, 1, none⟩) List.mem_cons_self v).trans F2
  have hc2 := G.at (F.at h.blk hcm) (fun hm => by
    rcases List.mem_cons.1 hm with e | hm
    · have := hlt c (.inl rfl); omega
    · exact h.nc dT (.inr hm))
  refine ⟨rfl, Cac.front hc2 h2 hnS h3 n2 (hm.keep G ?_) hl h.le, ?_⟩
  · intro hm
    rcases List.mem_cons.1 hm with e | hm
    · have := hlt mb (.inr (.inl rfl)); omega
    · exact h.nm hm
  · refine Fr.old ((F.mono fun k hk => .inl (.inl hk)).trans (G.mono fun k hk => ?_))
    rcases List.mem_cons.1 hk with e | hk
    · exact .inr (by omega)
    · exact .inl (.inr hk)

theorem put_new {kk : ByteArray} {vv : Int} (hk : kk.size ≤ maxLen) (h : C c mb r most L w) (hn : (.string kk) ∉ L.map Prod.fst) (hm : L.length < most) :
    Calls Try.prog 18 #[.pointer (some ⟨c, 0, none⟩), (.string kk), (.int .i64 vv)] w fun e w' => e = .returned (.tuple #[.string ⟨#[]⟩, .bool false, .int .i64 0]) ∧ C c mb r most (((.string kk), (.int .i64 vv), w.heap.size) :: L) w' ∧ Fr (cacW mb r L) w w' := by
  obtain ⟨-, q1, -⟩ := h.cells
  have hn2 : (.string kk) ∉ (L.map kb).map Prod.fst := by rw [List.map_map]; exact hn
  have hl := h.map.look_none (v := (.string kk)) KY Try.underlying77 (zeroP w) (keyK hk) hn2
  have q1' := (below_alloc' w (.cells #[(.string kk), .int .i64 0, .pointer none, .pointer none] Tn (0, 0))).at_cell q1 (fun h => h)
  have hmA := h.map.keep (below_alloc' w (.cells #[(.string kk), .int .i64 0, .pointer none, .pointer none] Tn (0, 0))) (fun h => h)
  have hb0 := heap_alloc_new w (.cells #[(.string kk), .int .i64 0, .pointer none, .pointer none] Tn (0, 0))
  have hmb : mb ≠ w.heap.size := by have := h.lt (k := mb) (.inr (.inl rfl)); omega
  have HF := Lib.hid (fun w1 hb F hm' => in_fresh (w1 := w1) (kx := (.string kk)) (v0 := .int .i64 0) (v := (.int .i64 vv)) h (Nat.le_of_lt hm) hb F hm')
  have hll : (L.map kb).length < maxLen := Nat.lt_trans (by rw [List.length_map]; have h4 := h.le; omega : (L.map kb).length < 5000) (by decide)
  have dm : (((.string kk), (.int .i64 vv), w.heap.size) :: L : List It).length ≤ most := by simp; omega
  have hL' : (((.string kk), (.int .i64 vv), w.heap.size) :: L : List It) = ((.string kk), (.int .i64 vv), w.heap.size) :: L := rfl
  generalize hLL : (((.string kk), (.int .i64 vv), w.heap.size) :: L : List It) = L' at *
  have HM := Lib.hid hmA; have HB := Lib.hid hb0
  unfold Ptr at *
  clear h hm hn hmA hb0 hL' hLL
  go_enter Try.func18, Try.ntmps18
  go_upto_region 11 with
    (first
      | (at_mapUpdate; refine wpList_store_p _ rfl _ _ _ 77 rfl kT 74 KY Try.underlying77 mb _ rfl HM.out hll (.string kk) _ w.heap.size rfl rfl (keyK hk) hn2 ?_; intro w1 m1 F1; have b1 := F1.at HB.out (fun e => hmb e.symm); have z1 := cell_at (j := 1) (v := .int .i64 0) b1 rfl; have y1 := free_at (j := 1) b1; have HB1 := Lib.hid b1; clear b1; have F0 : Fr (fun k => k = mb) w w1 := (below_alloc'' w _).trans F1)
      | (go_at_call 32; (with_reducible refine (HF.out _ HB1.out F0 m1).mono ?_); rintro e w2 ⟨rfl, n2, F2⟩; obtain ⟨p0, p1, -⟩ := n2.cells; have hlen := PMap.len (w := w2.drew) (P := Try.prog) n2.map (e := 74) (t := 77) Try.underlying77; rw [List.length_map] at hlen)
      | fail)
  go_region_held3 (fun w' => w'.cell? ⟨c, 0, none⟩ = some (.int .i64 (most : Int)) ∧ w'.cell? ⟨c, 1, none⟩ = some (.map (some mb)) ∧ (Builtin.len_ #[77] 3 #[.map (some mb)]).run Try.prog w' = .ok (.int .i64 (L'.length : Int)) w') (exact ⟨p0, p1, hlen 3⟩) (fail)
  all_goals
    go_wp2_with fail
    go_ret3
    exact ⟨rfl, n2.drew, F2.drew⟩

theorem put_full {kk : ByteArray} {vv : Int} (hk : kk.size ≤ maxLen) {yk yv : Value} {yb : Nat} (h : C c mb r most (L0 ++ [(yk, yv, yb)]) w) (hn : (.string kk) ∉ (L0 ++ [(yk, yv, yb)]).map Prod.fst) (hm : (L0 ++ [(yk, yv, yb)]).length = most) :
    Calls Try.prog 18 #[.pointer (some ⟨c, 0, none⟩), (.string kk), (.int .i64 vv)] w fun e w' => e = .returned (.tuple #[yk, .bool true, .int .i64 0]) ∧ C c mb r most (((.string kk), (.int .i64 vv), w.heap.size) :: L0) w' ∧ Fr (cacW mb r (L0 ++ [(yk, yv, yb)])) w w' := by
  obtain ⟨ly, hky⟩ := h.map.key (x := (yk, yb)) (List.mem_map.2 ⟨(yk, yv, yb), by simp, rfl⟩)
  obtain ⟨L, hLdef⟩ : ∃ L, L = L0 ++ [(yk, yv, yb)] := ⟨_, rfl⟩
  rw [← hLdef] at h hn hm ⊢
  have hs : ∀ k, cacS c mb r L k → k < w.heap.size := fun k hk => h.lt hk
  obtain ⟨-, q1, -⟩ := h.cells
  have hn2 : (.string kk) ∉ (L.map kb).map Prod.fst := by rw [List.map_map]; exact hn
  have hl := h.map.look_none (v := (.string kk)) KY Try.underlying77 (zeroP w) (keyK hk) hn2
  have q1' := (below_alloc' w (.cells #[(.string kk), .int .i64 0, .pointer none, .pointer none] Tn (0, 0))).at_cell q1 (fun h => h)
  have hmA := h.map.keep (below_alloc' w (.cells #[(.string kk), .int .i64 0, .pointer none, .pointer none] Tn (0, 0))) (fun h => h)
  have hb0 := heap_alloc_new w (.cells #[(.string kk), .int .i64 0, .pointer none, .pointer none] Tn (0, 0))
  have hmb : mb ≠ w.heap.size := by have := h.lt (k := mb) (.inr (.inl rfl)); omega
  have HF := Lib.hid (fun w1 hb F hm' => in_fresh (w1 := w1) (kx := (.string kk)) (v0 := .int .i64 0) (v := (.int .i64 vv)) h (Nat.le_of_eq hm) hb F hm')
  have hll : (L.map kb).length < maxLen := Nat.lt_trans (by rw [List.length_map]; have h4 := h.le; omega : (L.map kb).length < 5000) (by decide)
  have dm : ¬ (((.string kk), (.int .i64 vv), w.heap.size) :: L : List It).length ≤ most := by simp; omega
  have hLe : (((.string kk), (.int .i64 vv), w.heap.size) :: L : List It) = (((.string kk), (.int .i64 vv), w.heap.size) :: L0) ++ [(yk, yv, yb)] := by rw [hLdef]; rfl
  have hL' : (((.string kk), (.int .i64 vv), w.heap.size) :: L : List It) = ((.string kk), (.int .i64 vv), w.heap.size) :: L := rfl
  generalize hLL : (((.string kk), (.int .i64 vv), w.heap.size) :: L : List It) = L' at *
  have HLe := Lib.hid hLe; have HS := Lib.hid hs
  have HM := Lib.hid hmA; have HB := Lib.hid hb0
  unfold Ptr at *
  clear h hm hn hmA hb0 hL' hLL hLe hs
  go_enter Try.func18, Try.ntmps18
  go_upto_region 11 with
    (first
      | (at_mapUpdate; refine wpList_store_p _ rfl _ _ _ 77 rfl kT 74 KY Try.underlying77 mb _ rfl HM.out hll (.string kk) _ w.heap.size rfl rfl (keyK hk) hn2 ?_; intro w1 m1 F1; have b1 := F1.at HB.out (fun e => hmb e.symm); have z1 := cell_at (j := 1) (v := .int .i64 0) b1 rfl; have y1 := free_at (j := 1) b1; have HB1 := Lib.hid b1; clear b1; have F0 : Fr (fun k => k = mb) w w1 := (below_alloc'' w _).trans F1)
      | (go_at_call 32; (with_reducible refine (HF.out _ HB1.out F0 m1).mono ?_); rintro e w2 ⟨rfl, n2, F2⟩; obtain ⟨p0, p1, -⟩ := n2.cells; have hlen := PMap.len (w := w2.drew) (P := Try.prog) n2.map (e := 74) (t := 77) Try.underlying77; rw [List.length_map] at hlen)
      | fail)
  go_region_held3 (fun w' => w'.cell? ⟨c, 0, none⟩ = some (.int .i64 (most : Int)) ∧ w'.cell? ⟨c, 1, none⟩ = some (.map (some mb)) ∧ (Builtin.len_ #[77] 3 #[.map (some mb)]).run Try.prog w' = .ok (.int .i64 (L'.length : Int)) w') (exact ⟨p0, p1, hlen 3⟩) (fail)
  all_goals
    have HLe' := HLe.out
    subst HLe'
    obtain ⟨f2, t2⟩ := Cac.takes (l1 := ((.string kk), (.int .i64 vv), w.heap.size) :: L0) (l2 := []) (it := (yk, yv, yb)) n2
    have z2 : w2.cell? ⟨r, 2, none⟩ = some (Ptr yb) := t2.last
    have HO := Lib.hid (out_n (n := yb) t2.all.drew t2.mem t2.hy t2.he t2.ny t2.ne)
    have hp2 : w2.cell? ⟨c, 2, none⟩ = some (Ptr r) := n2.cells.2.2
    have hmN := n2.nm
    have hcN := n2.nc dT
    have hky2 := hky
    have Hn2 := Lib.hid n2; have Ht2 := Lib.hid t2
    have HmN := Lib.hid hmN
    have hcm : c ≠ mb := fun e => hcN (.inl e)
    have hyk : (outL f2 yb yb).k = yk := by rw [outL_k]; exact t2.key
    have hym : yb ∈ r :: ((((.string kk), (.int .i64 vv), w.heap.size) :: L0) ++ [(yk, yv, yb)]).map bl := t2.mem
    have hym' : yb ≠ mb := fun e => hmN (e ▸ hym)
    unfold Ptr at *
    clear n2 t2 hmN dm hlen HF HM HB
    go_upto_region 15 with
    (first
      | (go_at_call 31; (with_reducible refine HO.out.mono ?_); rintro e w3 ⟨rfl, n3, F3'⟩; have F3 := F3'.of_drew; clear F3')
      | fail)
    have HM3 : PMap Try.prog kT mb ((yk, yb) :: (((.string kk), (.int .i64 vv), w.heap.size) :: L0).map kb) w3 := by
      refine (Hn2.out.map.keep F3 HmN.out).perm ?_
      rw [List.map_append]
      exact List.perm_append_singleton _ _
    have HC3 := F3.at Hn2.out.blk (fun hm => hcN (.inr hm))
    have x0 : w3.cell? ⟨c, 1, none⟩ = some (.map (some mb)) := cell_at HC3 rfl
    obtain ⟨x1, -⟩ := n3.open hym
    rw [hyk] at x1
    have Hn3 := Lib.hid n3; have HF3 := Lib.hid F3; have HM4 := Lib.hid HM3
    clear n3 F3 HM3 HC3 hyk hym
    go_region_held3 (fun w' => w'.cell? ⟨c, 1, none⟩ = some (.map (some mb)) ∧ w'.cell? ⟨yb, 0, none⟩ = some yk) (first | exact ⟨x0, x1⟩ | exact ⟨F4.at_cell x0 hcm, F4.at_cell x1 hym'⟩)
      (first | (refine step_drop_p _ rfl _ _ 77 kT rfl 74 KY Try.underlying77 mb _ rfl yk ly yb (HM4.out : PMap _ _ _ _ w3.drew) rfl hky ?_; intro w4 m4 F4; have x4 := F4.at_cell x1 hym'))
    all_goals
      go_wp2_with fail
      go_ret3
      have F34 : Fr (fun k => k = mb) w3 w4 := F4.of_drew
      refine ⟨rfl, Ht2.out.rest Hn2.out dT HF3.out Hn3.out m4 F34, ?_⟩
      refine Fr.old (F2.mono (fun k hk => .inl hk) |>.trans ((HF3.out.mono fun k hk => ?_).trans (F34.mono fun k hk => .inl (.inl hk))))
      rw [hLdef]
      simp only [List.map_cons, List.cons_append, List.mem_cons] at hk
      rcases hk with hk | hk | hk
      · exact .inl (.inr (by rw [hk]; exact List.mem_cons_self))
      · exact .inr (by rw [hk]; exact Nat.le_refl _)
      · exact .inl (.inr (List.mem_cons_of_mem _ hk))

theorem infoRow : (Try.prog.info? 9).map (fun i => (i.zero, i.size, i.bytes)) = some (some (.string ⟨#[]⟩), 1, 16) := by kernel_rfl
theorem nodeSize : (Try.prog.info? Tn).map (·.size) = some 4 := by kernel_rfl
set_option maxHeartbeats 1000000 in
theorem keys_n (h : C c mb r most L w) (ho : ∀ x ∈ L, ∃ kk : ByteArray, x.1 = (.string kk)) : Calls Try.prog 19 #[.pointer (some ⟨c, 0, none⟩)] w fun e w' => ∃ v, e = .returned v ∧ w'.ownsRow w.heap.size 9 1 v L.length (L.map Prod.fst) ∧ Below w.heap.size w w' := by
  obtain ⟨i0, hi, hz0, hz1, hz2⟩ := info_parts infoRow
  obtain ⟨j, hj, hjs⟩ := Option.map_eq_some_iff.1 nodeSize
  obtain ⟨-, -, q2⟩ := h.cells
  obtain ⟨f, h1, h2, h3⟩ := h.ring
  have hLl : (L.map bl).length = L.length := List.length_map _
  have hl4 : L.length ≤ 4097 := by have := h.full; have := h.le; omega
  have hst := h2.start
  obtain ⟨-, -, -, e0, -⟩ := h1.open List.mem_cons_self
  rw [hst] at e0
  have HC := Lib.hid h
  have HN := Lib.hid h1; have HY := Lib.hid h2; have HV := Lib.hid h3; have HO := Lib.hid ho
  unfold Ptr at *
  clear h h1 h2 h3 hst ho
  have hclt : c < w.heap.size := HC.out.lt (.inl rfl)
  go_enter Try.func19, Try.ntmps19
  go_wp2
  go_loopw [3, 4] (fun v p wr => ∃ k : Nat, k ≤ L.length ∧ p = .pointer (some ⟨ngh (L.map bl) r k, 0, none⟩) ∧ wr.ownsRow w.heap.size 9 1 v k ((L.map Prod.fst).take k) ∧ Below w.heap.size w wr) (fun v _ _ => L.length - lenOf v)
  case atStart => exact ⟨0, Nat.zero_le _, rfl, World.ownsRow_nil _ _ _ _, Below.refl _ _⟩
  case round =>
    obtain ⟨k, hk, rfl, hown, hB⟩ := hrel
    have hu3 : lenOf u3 = k := ownsRow_lenOf hown
    have qc : wr.cell? ⟨c, 2, none⟩ = some (.pointer (some ⟨r, 0, none⟩)) := (hB.cell (p := ⟨c, 2, none⟩) hclt).trans q2
    by_cases hkl : k < L.length
    · have hkb : k < (L.map bl).length := by omega
      have hne := HY.out.ngh_ne hkb
      have hmem : ngh (L.map bl) r k ∈ r :: L.map bl := Cyc.ngh_mem (r := r) hkb
      have hNN := HN.out.keep (F := fun _ => False) (Fr.of_below hB) (fun _ _ h => h)
      have hN := hNN.open hmem
      have hneq := run_neq_ptr_other (P := Try.prog) wr (a := ⟨ngh (L.map bl) r k, 0, none⟩) (b := ⟨r, 0, none⟩) Try.underlying74 hj (by rw [hjs]; decide) (by intro e; injection e with e; exact hne e) (hNN _ hmem) (hNN r List.mem_cons_self)
      obtain ⟨n0, -, -, n3, -⟩ := hN
      rw [HY.out.step hkb] at n3
      have hx : (f (ngh (L.map bl) r k)).k = L[k].1 := by
        rw [ngh_lt hkb, List.getElem_map]
        exact (HV.out L[k] (List.getElem_mem hkl)).1
      rw [hx] at n0
      obtain ⟨kk, hkk⟩ := HO.out L[k] (List.getElem_mem hkl)
      have htake : (L.map Prod.fst).take k ++ [L[k].1] = (L.map Prod.fst).take (k + 1) := by
        rw [List.take_succ_eq_append_getElem (by rw [List.length_map]; exact hkl), List.getElem_map]
      unfold Ptr at n3
      have Hu3 := Lib.hid hu3; have HT := Lib.hid htake; have Hown := Lib.hid hown; have HB := Lib.hid hB
      have hlt1 : ngh (L.map bl) r k < w.heap.size := HC.out.lt (.inr (.inr hmem))
      have hno : ∀ g, g < w.heap.size → ¬ some g = u3.ownBlock := fun g hg e => by have := (hown.lt g e.symm).1; omega
      have hne' := Lib.hid hno
      clear hu3 htake hx hmem hown hB hNN hno
      generalize L[k].1 = kx at *
      subst hkk
      generalize ngh (L.map bl) r k = n at *
      obtain ⟨n', hn'⟩ : ∃ n', n' = ngh (L.map bl) r (k + 1) := ⟨_, rfl⟩
      rw [← hn'] at n3
      have HN' := Lib.hid hn'; clear hn'
      go_wp2_with (at_builtin; refine wpList_append_own _ rfl _ _ 51 rfl w.heap.size 9 i0 (.string ⟨#[]⟩) 1 16 Try.underlying51 hi hz0 hz1 hz2 rfl (by decide) _ _ _ rfl (Hown.out.alloc _) ⟨wr.heap.size, 0, none⟩ 1 1 [(.string kk)] rfl rfl (cell_one_new _ _ _) (by simp [Value.oneCell']) (by unfold maxLen; omega) (by omega) (by have := HB.out.size; simp; omega) ?_; intro v2 w2 hown2 hg2 _; have F2 : Fr (fun g => some g = u3.ownBlock) wr w2 := ⟨hg2.os, hg2.tape, hg2.output, by have := hg2.size; simp at this; omega, fun g hg hn => by rw [hg2.block g (by simp; omega) hn]; exact Below.heap_alloc _ _ _ hg⟩; have n3' : w2.cell? ⟨n, 3, none⟩ = some (.pointer (some ⟨n', 0, none⟩)) := F2.at_cell n3 (hne'.out n hlt1))
      go_roundw
      case rel => exact ⟨k + 1, hkl, by rw [HN'.out], by rw [← HT.out]; exact hown2, HB.out.trans (F2.below HB.out.size hne'.out)⟩
      case measure => simp [ownsRow_lenOf hown2, Hu3.out]; omega
    · obtain rfl : k = L.length := by omega
      have hneq := run_neq_ptr_same (P := Try.prog) wr (⟨r, 0, none⟩ : Addr) Try.underlying74 hj
      rw [show ngh (L.map bl) r L.length = r by rw [← hLl]; exact ngh_end]
      go_wp2_with fail
      go_ret
      rw [List.take_of_length_le (by simp)] at hown
      exact ⟨_, rfl, hown, hB⟩
end
end
end Go.Proofs.Ytkbcfagggjfhhaa.Csi
