/- What the reference's Do tells of a put where there is room. Conditions: the two slices read as lists; the lists are short. -/
import Derived.Test.YtdcjpgpeedboaaaMailDo
import Derived.Deep.DeepCutAuto
namespace Go.Proofs.Ytdcjpgpeedboaaa.MDo
open Go.RowKit Go.Proofs.Ytdcjpgpeedboaaa
set_option linter.unusedSimpArgs false
section
variable {N : Nat → Prop} {vU vP : Value} {ku kp kind n : Int} {U Pl : List Int} {w : World}
theorem info3 : (Try.prog.info? 3).map (fun i => (i.zero, i.size, i.bytes)) = some (some (.int .i64 0), 1, 8) := by kernel_rfl

/-- What lies in memory behind the statement that puts. -/
def Mid (w : World) (a0 a1 : Value) (ku kp : Int) (wx : World) : Prop :=
  wx.heap[w.heap.size]? = some (.cells #[a0, a1, .int .i64 ku, .int .i64 kp] 40 (0, 0)) ∧ wx.heap[w.heap.size + 1 + 1]? = some (.cells #[.slice none 0 0, .slice none 0 0, .int .i64 0, .int .i64 0] 40 (0, 0)) ∧ Below w.heap.size w wx

theorem at3 (w : World) (a b c : Obj) : (((w.alloc a).alloc b).alloc c).heap[w.heap.size]? = some a ∧ (((w.alloc a).alloc b).alloc c).heap[w.heap.size + 1]? = some b ∧ (((w.alloc a).alloc b).alloc c).heap[w.heap.size + 1 + 1]? = some c := by
  refine ⟨?_, ?_, ?_⟩
  · rw [Below.heap_alloc _ _ _ (by simp; omega), Below.heap_alloc _ _ _ (by simp)]
    exact heap_alloc_new w a
  · rw [Below.heap_alloc _ _ _ (by simp)]
    simpa using heap_alloc_new (w.alloc a) b
  · simpa using heap_alloc_new ((w.alloc a).alloc b) c
theorem hat1 (W : World) (o : Obj) : (W.alloc o).drew.heap[W.heap.size]? = some o := heap_alloc_new W o
theorem hat2 (W : World) (o p : Obj) : ((W.alloc o).alloc p).drew.heap[W.heap.size]? = some o := by
  show ((W.alloc o).alloc p).heap[W.heap.size]? = some o
  rw [Below.heap_alloc _ _ _ (by simp)]
  exact heap_alloc_new W o
theorem hat2' (W : World) (o p : Obj) : ((W.alloc o).alloc p).drew.heap[W.heap.size + 1]? = some p := by
  have := heap_alloc_new (W.alloc o) p
  rw [World.size_alloc] at this
  exact this
/-- A cell that lies there lies behind new blocks. -/
theorem later1 {W : World} {p : Addr} {v : Value} (h : W.cell? p = some v) : ∀ o, (W.alloc o).cell? p = some v := fun o =>
  (World.cell?_of_block (Below.heap_alloc W o p.block (World.block_lt_of_cell? W p h))).trans h
theorem later2 {W : World} {p : Addr} {v : Value} (h : W.cell? p = some v) : ∀ o q, ((W.alloc o).alloc q).cell? p = some v := fun o q => later1 (later1 h o) q
theorem heap_later1 {W : World} {k : Nat} {o : Obj} (h : W.heap[k]? = some o) (a : Obj) : (W.alloc a).heap[k]? = some o :=
  ((Fr.refl (fun _ => False) W).alloc a).at h (fun h => h)

set_option maxRecDepth 100000 in
set_option maxHeartbeats 6000000 in
theorem do_plain_room (hU : Rd N w vU (U.map I)) (hP : Rd N w vP (Pl.map I)) (hf : (Pl.length : Int) < kp) (hl : Pl.length ≤ 10000) (hN : ∀ g, w.heap.size ≤ g → N g) :
    Calls Try.prog 17 #[.agg #[vU, vP, .int .i64 ku, .int .i64 kp], .agg #[.int .i64 0, .int .i64 n]] w (DoOk N ku kp U (Pl ++ [n]) 0 false 0 w) := by
  obtain ⟨aU, cU, rfl, hU1, hUm, -, -⟩ := hU.view
  obtain ⟨aP, cP, rfl, hP1, hPm, -, -⟩ := hP.view
  rw [List.length_map] at hU hP hU1 hP1
  unfold maxLen at hUm hPm
  obtain ⟨i0, hi, hz0, hz1, hz2⟩ := info_parts info3
  have HN := Lib.hid hN; clear hN
  have d0 : decide (kp ≤ (Pl.length : Int)) = false := decide_eq_false (by omega)
  go_enter Try.func17, Try.ntmps17
  simp only [List.length_map]
  go_upto_region 5 with fail
  obtain ⟨k1, k2, k3⟩ := at3 w (.cells #[.slice aU U.length cU, .slice aP Pl.length cP, .int .i64 ku, .int .i64 kp] 40) (.cells #[.int .i64 0, .int .i64 n] 42) (.cells #[.slice none 0 0, .slice none 0 0, .int .i64 0, .int .i64 0] 40)
  have b3 := bel3 w (.cells #[.slice aU U.length cU, .slice aP Pl.length cP, .int .i64 ku, .int .i64 kp] 40) (.cells #[.int .i64 0, .int .i64 n] 42) (.cells #[.slice none 0 0, .slice none 0 0, .int .i64 0, .int .i64 0] 40)
  have hsz : w.heap.size + 1 + 1 < (((w.alloc (.cells #[.slice aU U.length cU, .slice aP Pl.length cP, .int .i64 ku, .int .i64 kp] 40)).alloc (.cells #[.int .i64 0, .int .i64 n] 42)).alloc (.cells #[.slice none 0 0, .slice none 0 0, .int .i64 0, .int .i64 0] 40)).heap.size := by simp
  generalize (((w.alloc (.cells #[.slice aU U.length cU, .slice aP Pl.length cP, .int .i64 ku, .int .i64 kp] 40)).alloc (.cells #[.int .i64 0, .int .i64 n] 42)).alloc (.cells #[.slice none 0 0, .slice none 0 0, .int .i64 0, .int .i64 0] 40)) = W3 at *
  have K1 := Lib.hid k1; have K2 := Lib.hid k2; have K3 := Lib.hid k3
  have c1 := cell_at (j := 1) k1 rfl
  have c2 := cell_at (j := 1) k2 rfl
  have q1 := later1 c1; have q2 := later1 c2; have r1 := later2 c1; have r2 := later2 c2
  clear k1 k2 k3
  go_cut [28] (fun v wx => Mid w (.slice aU U.length cU) v ku kp wx ∧ Rd (fun g => N g ∧ g ≠ w.heap.size + 1 + 1) wx v ((Pl ++ [n]).map I))
  case first =>
    have hP3 := hP.below b3
    have hzs : (Value.int IntKind.i64 0).cells.size = 1 := rfl
    go_region_law (first
      | ((with_reducible refine step_append_rd (o := ⟨some 24, _, _, _, _, _⟩) (N := N) (xs := []) (ys := Pl.map I) (n := 0) rfl (.tmp 21) (.tmp 23) 31 rfl W3.heap.size 3 i0 (.int .i64 0) 8 Try.underlying31 hi hz0 hz1 hz2 hzs rfl rfl ?_ ?_ ?_ ?_ ?_ ?_ ?_); (first | exact own_zero (hat1 _ _) (Nat.le_refl _) | exact own_zero (hat2 _ _ _) (Nat.le_refl _) | exact own_zero (hat2' _ _ _) (Nat.le_succ _)); (first | exact hP3.keep (S := fun _ => False) (((Fr.refl _ _).alloc _).drew) (fun _ _ h => h) | exact hP3.keep (S := fun _ => False) ((((Fr.refl _ _).alloc _).alloc _).drew) (fun _ _ h => h)); (simp [Value.oneCell']); (simp [maxLen]; omega); (simp; omega); (first | (focus (simp; done)) | (focus (simp; omega))); intro v1 w1 own1 hg1; (have f1 : Fr (fun _ => False) W3 w1 := (by first | (refine (((Fr.refl _ _).alloc _).drew).grown hg1 ?_; intro k hk; simp [Value.ownBlock, Act.eval] at hk; omega) | (refine ((((Fr.refl _ _).alloc _).alloc _).drew).grown hg1 ?_; intro k hk; simp [Value.ownBlock, Act.eval] at hk; omega))); have s1 := f1.size; have d1 := f1.at_cell c1 (fun h => h); have d2 := f1.at_cell c2 (fun h => h); (first | (have n27 : Hid (w1.heap[W3.heap.size + 1]? = some (.cells #[I n] 3 (0, 0))) := (by refine Lib.hid (grown_heap hg1 ?_ ?_); (first | exact hat2 _ _ _ | exact hat2' _ _ _); (simp [Value.ownBlock, Act.eval]))) | (have n27 : Hid (w1.heap[W3.heap.size]? = some (.cells #[I n] 3 (0, 0))) := (by refine Lib.hid (grown_heap hg1 ?_ ?_); (first | exact hat2 _ _ _ | exact hat2' _ _ _); (simp [Value.ownBlock, Act.eval]))) | skip); clear hg1)
      | ((with_reducible refine step_append_rd (o := ⟨some 28, _, _, _, _, _⟩) (N := N) (xs := [] ++ Pl.map I) (ys := [I n]) (n := 0 + (Pl.map I).length) rfl (.tmp 24) (.tmp 27) 31 rfl W3.heap.size 3 i0 (.int .i64 0) 8 Try.underlying31 hi hz0 hz1 hz2 hzs rfl rfl ?_ ?_ ?_ ?_ ?_ ?_ ?_); (first | exact own1 | exact own1.alloc _); (first | (refine rd_one (B := w1.heap.size) (E := 3) (fz := (0, 0)) ?_ (HN.out _ ?_); (exact heap_alloc_new _ _); omega) | (refine rd_one (B := W3.heap.size) (E := 3) (fz := (0, 0)) ?_ (HN.out _ ?_); (exact n27.out); omega) | (refine rd_one (B := W3.heap.size + 1) (E := 3) (fz := (0, 0)) ?_ (HN.out _ ?_); (exact n27.out); omega)); (simp [Value.oneCell']); (simp [maxLen]; omega); (simp; omega); (first | omega | (focus (simp; done)) | (focus (simp; omega))); intro v2 w2 own2 hg2; (have f2 : Fr (fun _ => False) W3 w2 := (by first | exact f1.grown hg2 (fun k hk => (own1.lt k hk).1) | exact (f1.alloc _).grown hg2 (fun k hk => (own1.lt k hk).1))); have R2 : Rd (fun g => N g ∧ W3.heap.size ≤ g) w2 v2 ((Pl ++ [n]).map I) := (by rw [List.map_append]; exact Rd.of_own own2 (fun g hg => ⟨HN.out g (Nat.le_trans b3.size hg), hg⟩)); have g1 := f2.at_cell c1 (fun h => h); have g2 := free_at (j := 1) (f2.at K1.out (fun h => h)); clear own2 hg2 own1; obtain ⟨a2, z2, rfl, -⟩ := id R2))
    all_goals go_wp2
    all_goals go_meet
    all_goals
      have hl2 : (List.map I (Pl ++ [n])).length = Pl.length + 1 := by simp
      rw [hl2] at R2
      refine ⟨⟨heap_setC (f2.at K1.out (fun h => h)) _, heap_setO (f2.at K3.out (fun h => h)) _ (by omega), ?_⟩, ?_⟩
      · exact (b3.trans (f2.below (by omega) (fun _ _ h => h))).setCell (p := ⟨w.heap.size, 1, none⟩) (Nat.le_refl _) _
      · exact Rd.mono (N := fun g => N g ∧ W3.heap.size ≤ g) (N' := fun g => N g ∧ g ≠ w.heap.size + 1 + 1) (R2.keep (Fr.one _ _ _ _) (fun g hg he => by have h2 : W3.heap.size ≤ g := hg.2; have h3 : g = w.heap.size := he; omega)) (fun g _ hg => ⟨hg.1, by have h2 : W3.heap.size ≤ g := hg.2; omega⟩)
  case rest =>
    obtain ⟨⟨m1, m2, m3⟩, hr⟩ := hcut
    obtain ⟨a2, z2, rfl, -⟩ := id hr
    have x0 := cell_at (j := 0) m1 rfl
    have x1 := cell_at (j := 1) m1 rfl
    have x2 := cell_at (j := 2) m1 rfl
    have x3 := cell_at (j := 3) m1 rfl
    have y0 := cell_at (j := 0) m2 rfl
    have y1 := cell_at (j := 1) m2 rfl
    have y2 := cell_at (j := 2) m2 rfl
    have y3 := cell_at (j := 3) m2 rfl
    have z0 := fun j => free_at (j := j) m2
    have M2 := Lib.hid m2; clear m1 m2
    go_wp2
    have F := heap_setC (j := 3) (heap_setC (j := 2) (heap_setC (j := 1) (heap_setC (j := 0) M2.out (.slice aU U.length cU)) (.slice a2 (Pl.length + 1) z2)) (.int .i64 ku)) (.int .i64 kp)
    have w0 := cell_at (j := 0) (v := .slice aU U.length cU) F rfl
    have w1 := cell_at (j := 1) (v := .slice a2 (Pl.length + 1) z2) F rfl
    have w2 := cell_at (j := 2) (v := .int .i64 ku) F rfl
    have w3 := cell_at (j := 3) (v := .int .i64 kp) F rfl
    have hl2 : (List.map I (Pl ++ [n])).length = Pl.length + 1 := by simp
    rw [hl2] at hr
    refine bodyPost_ret (v := .tuple #[.agg #[.slice aU U.length cU, .slice a2 (Pl.length + 1) z2, .int .i64 ku, .int .i64 kp], .int .i64 0, .bool false, .int .i64 0]) (by simp [results, Try.results17, go_sem, w0, w1, w2, w3]) rfl ⟨_, _, rfl, ?_, ?_, ?_⟩
    · exact hU.below ((((m3.setCell (by simp; omega) _).setCell (by simp; omega) _).setCell (by simp; omega) _).setCell (by simp; omega) _)
    · exact ((((hr.keep (Fr.one _ _ _ _) (fun g hg => hg.2)).keep (Fr.one _ _ _ _) (fun g hg => hg.2)).keep (Fr.one _ _ _ _) (fun g hg => hg.2)).keep (Fr.one _ _ _ _) (fun g hg => hg.2)).mono (fun g _ hg => hg.1)
    · exact (((m3.setCell (by simp; omega) _).setCell (by simp; omega) _).setCell (by simp; omega) _).setCell (by simp; omega) _
end
end Go.Proofs.Ytdcjpgpeedboaaa.MDo
