/- What the reference's Do tells of a call, one theorem for each way. Conditions: the two slices read as lists; the lists are short. -/
import Derived.Test.YtdcjpgpeedboaaaChecked
import Derived.Test.YtdcjpgpeedboaaaMem
import Derived.KernelRfl
import Derived.Outline
import Derived.BigQuiet
import Derived.Deep.QuietTactic
import Derived.Deep.RegionLaw
import Derived.WalkLawsBesides
namespace Go.Proofs.Ytdcjpgpeedboaaa.MDo
open Go.RowKit Go.Proofs.Ytdcjpgpeedboaaa

abbrev I (x : Int) : Value := .int .i64 x
/-- What Do leaves. -/
def DoOk (N : Nat → Prop) (ku kp : Int) (U Pl : List Int) (x : Int) (u : Bool) (f : Int) (w : World) (e : Ending) (w' : World) : Prop :=
  ∃ vU vP, e = .returned (.tuple #[.agg #[vU, vP, .int .i64 ku, .int .i64 kp], .int .i64 x, .bool u, .int .i64 f]) ∧ Rd N w' vU (U.map I) ∧ Rd N w' vP (Pl.map I) ∧ Below w.heap.size w w'

theorem bel3 (w : World) (a b c : Obj) : Below w.heap.size w (((w.alloc a).alloc b).alloc c) := (((Below.refl _ w).alloc (Nat.le_refl _) a).alloc (by simp) b).alloc (by simp; omega) c

section
variable {N : Nat → Prop} {vU vP : Value} {ku kp kind n : Int} {U Pl : List Int} {w : World}

set_option maxRecDepth 100000 in
set_option maxHeartbeats 400000 in
theorem do_plain_full (hU : Rd N w vU (U.map I)) (hP : Rd N w vP (Pl.map I)) (hf : kp ≤ (Pl.length : Int)) :
    Calls Try.prog 17 #[.agg #[vU, vP, .int .i64 ku, .int .i64 kp], .agg #[.int .i64 0, .int .i64 n]] w (DoOk N ku kp U Pl 0 false 6 w) := by
  obtain ⟨aU, cU, rfl, hU1, hUm, -, -⟩ := hU.view
  obtain ⟨aP, cP, rfl, hP1, hPm, -, -⟩ := hP.view
  rw [List.length_map] at hU hP hU1 hP1
  unfold maxLen at hUm hPm
  go_enter Try.func17, Try.ntmps17
  simp only [List.length_map]
  go_wp2
  refine bodyPost_ret (v := .tuple #[.agg #[.slice aU U.length cU, .slice aP Pl.length cP, .int .i64 ku, .int .i64 kp], .int .i64 0, .bool false, .int .i64 6]) (by simp [results, Try.results17, go_sem]) rfl ⟨_, _, rfl, hU.below (bel3 _ _ _ _), hP.below (bel3 _ _ _ _), bel3 _ _ _ _⟩

set_option maxRecDepth 100000 in
set_option maxHeartbeats 400000 in
theorem do_urgent_full (hU : Rd N w vU (U.map I)) (hP : Rd N w vP (Pl.map I)) (hf : ku ≤ (U.length : Int)) :
    Calls Try.prog 17 #[.agg #[vU, vP, .int .i64 ku, .int .i64 kp], .agg #[.int .i64 1, .int .i64 n]] w (DoOk N ku kp U Pl 0 false 6 w) := by
  obtain ⟨aU, cU, rfl, hU1, hUm, -, -⟩ := hU.view
  obtain ⟨aP, cP, rfl, hP1, hPm, -, -⟩ := hP.view
  rw [List.length_map] at hU hP hU1 hP1
  unfold maxLen at hUm hPm
  go_enter Try.func17, Try.ntmps17
  simp only [List.length_map]
  go_wp2
  refine bodyPost_ret (v := .tuple #[.agg #[.slice aU U.length cU, .slice aP Pl.length cP, .int .i64 ku, .int .i64 kp], .int .i64 0, .bool false, .int .i64 6]) (by simp [results, Try.results17, go_sem]) rfl ⟨_, _, rfl, hU.below (bel3 _ _ _ _), hP.below (bel3 _ _ _ _), bel3 _ _ _ _⟩

set_option maxRecDepth 100000 in
set_option maxHeartbeats 400000 in
theorem do_none (hU : Rd N w vU (U.map I)) (hP : Rd N w vP (Pl.map I)) (h0 : kind ≠ 0) (h1 : kind ≠ 1) (hu : U = []) (hp : Pl = []) :
    Calls Try.prog 17 #[.agg #[vU, vP, .int .i64 ku, .int .i64 kp], .agg #[.int .i64 kind, .int .i64 n]] w (DoOk N ku kp U Pl 0 false 5 w) := by
  obtain ⟨aU, cU, rfl, hU1, hUm, -, -⟩ := hU.view
  obtain ⟨aP, cP, rfl, hP1, hPm, -, -⟩ := hP.view
  rw [List.length_map] at hU hP hU1 hP1
  unfold maxLen at hUm hPm
  subst hu hp
  have d0 : (kind == 0) = false := by simpa using h0
  have d1 : (kind == 1) = false := by simpa using h1
  simp only [List.length_nil] at *
  go_enter Try.func17, Try.ntmps17
  simp only [List.length_map]
  go_wp2
  refine bodyPost_ret (v := .tuple #[.agg #[.slice aU 0 cU, .slice aP 0 cP, .int .i64 ku, .int .i64 kp], .int .i64 0, .bool false, .int .i64 5]) (by simp [results, Try.results17, go_sem]) rfl ⟨_, _, rfl, hU.below (bel3 _ _ _ _), hP.below (bel3 _ _ _ _), bel3 _ _ _ _⟩


theorem rd_empty (w : World) (a : Addr) (N : Nat → Prop) : Rd N w (.slice (some a) 0 0) [] := ⟨some a, 0, rfl, Nat.le_refl _, by decide, (fun h => by cases h), fun j u hj => by simp at hj⟩
/-- The rest of a slice: of a slice that reads as x :: l. -/
theorem rd_tail {w : World} {g off c : Nat} {x : Int} {l : List Int} (h : Rd N w (.slice (some ⟨g, off, none⟩) (l.length + 1) c) ((x :: l).map I)) :
    Rd N w (.slice (some ⟨g, off + 1, none⟩) l.length (c - 1)) (l.map I) := by
  obtain ⟨a, c', e, h2, h3, h4, h5⟩ := h
  simp only [List.length_map, List.length_cons, Value.slice.injEq] at e
  obtain ⟨rfl, -, rfl⟩ := e
  refine ⟨_, _, by rw [List.length_map], by simp at h2 ⊢; omega, by omega, (fun h => by cases h), fun j u hj => ?_⟩
  obtain ⟨g', off', e1, e2, e3⟩ := h5 (j + 1) u (by simpa using hj)
  simp only [Option.some.injEq, Addr.mk.injEq, and_true] at e1
  obtain ⟨rfl, rfl⟩ := e1
  exact ⟨_, _, rfl, e2, by rw [← e3]; congr 2; omega⟩

set_option maxRecDepth 100000 in
set_option maxHeartbeats 400000 in
theorem do_urgent {x : Int} (hU : Rd N w vU ((x :: U).map I)) (hP : Rd N w vP (Pl.map I)) (h0 : kind ≠ 0) (h1 : kind ≠ 1) :
    Calls Try.prog 17 #[.agg #[vU, vP, .int .i64 ku, .int .i64 kp], .agg #[.int .i64 kind, .int .i64 n]] w (DoOk N ku kp U Pl x true 0 w) := by
  obtain ⟨aU, cU, rfl, hU1, hUm, -, hc⟩ := hU.view
  obtain ⟨aP, cP, rfl, hP1, hPm, -, -⟩ := hP.view
  obtain ⟨g, off, rfl, -, hg, hcell⟩ := hc 0 (by simp)
  simp only [List.length_map, List.length_cons] at hU hP hU1 hP1
  simp only [List.map_cons, List.getElem?_cons_zero, Option.getD_some, Nat.add_zero] at hcell
  unfold maxLen at hUm hPm
  have d0 : (kind == 0) = false := by simpa using h0
  have d1 : (kind == 1) = false := by simpa using h1
  have d2 : decide ((0 : Int) < (U.length : Int) + 1) = true := decide_eq_true (by omega)
  clear hc
  have hc3 := fun a b c => ((bel3 w a b c).cell (p := ⟨g, off, none⟩) hg).trans hcell
  by_cases hc1 : cU = 1
  · have hU0 : U = [] := List.eq_nil_of_length_eq_zero (by omega)
    subst hU0 hc1
    go_enter Try.func17, Try.ntmps17
    simp only [List.length_map, List.length_cons, List.length_nil]
    go_wp2
    refine bodyPost_ret (v := .tuple #[.agg #[.slice (some ⟨g, off, none⟩) 0 0, .slice aP Pl.length cP, .int .i64 ku, .int .i64 kp], .int .i64 x, .bool true, .int .i64 0]) (by simp [results, Try.results17, go_sem]) rfl ⟨_, _, rfl, ?_, ?_, ?_⟩
    · exact rd_empty _ _ _
    · exact hP.below (bel3 _ _ _ _)
    · exact bel3 _ _ _ _
  · go_enter Try.func17, Try.ntmps17
    simp only [List.length_map, List.length_cons]
    go_wp2
    refine bodyPost_ret (v := .tuple #[.agg #[.slice (some ⟨g, off + 1, none⟩) U.length (cU - 1), .slice aP Pl.length cP, .int .i64 ku, .int .i64 kp], .int .i64 x, .bool true, .int .i64 0]) (by simp [results, Try.results17, go_sem]) rfl ⟨_, _, rfl, ?_, ?_, ?_⟩
    · exact (rd_tail hU).below (bel3 _ _ _ _)
    · exact hP.below (bel3 _ _ _ _)
    · exact bel3 _ _ _ _

set_option maxRecDepth 100000 in
set_option maxHeartbeats 400000 in
theorem do_plain {x : Int} (hU : Rd N w vU (([] : List Int).map I)) (hP : Rd N w vP ((x :: Pl).map I)) (h0 : kind ≠ 0) (h1 : kind ≠ 1) :
    Calls Try.prog 17 #[.agg #[vU, vP, .int .i64 ku, .int .i64 kp], .agg #[.int .i64 kind, .int .i64 n]] w (DoOk N ku kp [] Pl x false 0 w) := by
  obtain ⟨aU, cU, rfl, hU1, hUm, -, -⟩ := hU.view
  obtain ⟨aP, cP, rfl, hP1, hPm, -, hc⟩ := hP.view
  obtain ⟨g, off, rfl, -, hg, hcell⟩ := hc 0 (by simp)
  simp only [List.length_map, List.length_cons] at hU hP hU1 hP1
  simp only [List.map_cons, List.getElem?_cons_zero, Option.getD_some, Nat.add_zero] at hcell
  unfold maxLen at hUm hPm
  have d0 : (kind == 0) = false := by simpa using h0
  have d1 : (kind == 1) = false := by simpa using h1
  have d2 : decide ((0 : Int) < (Pl.length : Int) + 1) = true := decide_eq_true (by omega)
  clear hc
  have hc3 := fun a b c => ((bel3 w a b c).cell (p := ⟨g, off, none⟩) hg).trans hcell
  by_cases hc1 : cP = 1
  · have hP0 : Pl = [] := List.eq_nil_of_length_eq_zero (by omega)
    subst hP0 hc1
    go_enter Try.func17, Try.ntmps17
    simp only [List.length_map, List.length_cons, List.length_nil]
    go_wp2
    refine bodyPost_ret (v := .tuple #[.agg #[.slice aU 0 cU, .slice (some ⟨g, off, none⟩) 0 0, .int .i64 ku, .int .i64 kp], .int .i64 x, .bool false, .int .i64 0]) (by simp [results, Try.results17, go_sem]) rfl ⟨_, _, rfl, ?_, ?_, ?_⟩
    · exact hU.below (bel3 _ _ _ _)
    · exact rd_empty _ _ _
    · exact bel3 _ _ _ _
  · go_enter Try.func17, Try.ntmps17
    simp only [List.length_map, List.length_cons]
    go_wp2
    refine bodyPost_ret (v := .tuple #[.agg #[.slice aU 0 cU, .slice (some ⟨g, off + 1, none⟩) Pl.length (cP - 1), .int .i64 ku, .int .i64 kp], .int .i64 x, .bool false, .int .i64 0]) (by simp [results, Try.results17, go_sem]) rfl ⟨_, _, rfl, ?_, ?_, ?_⟩
    · exact hU.below (bel3 _ _ _ _)
    · exact (rd_tail hP).below (bel3 _ _ _ _)
    · exact bel3 _ _ _ _
end
end Go.Proofs.Ytdcjpgpeedboaaa.MDo
