/- 'planimeterlaw19.CachePlays' returns true for every input, and each argument reads afterwards as it read before. Conditions: none. -/
import Derived.Test.YtkbcfagggjfhhaaRows
import Derived.Test.YtkbcfagggjfhhaaCachePlaysWalk
import Derived.WalkKit
import Derived.ProofKit
import Derived.OpenShut
import Derived.ShutString
import Derived.ChangeOld
import Derived.Below
import Derived.Deep.Slices
import Derived.Deep.Strs
namespace Go.Proofs.Ytkbcfagggjfhhaa.cachePlays
open Go.ChangeShapes Go.WideShapes Go.ChangeAt Go.RowKit
open Go.ChangeMaps (open_string shut_string)
set_option linter.unusedVariables false

theorem own : ownKnob Try.prog.godebug = none := by kernel_rfl
theorem laidOut : laidOutB Try.prog = true := by kernel_rfl

/-- The calls up to a slice's length, as the walk wants them. -/
theorem acts_view {H : Type} {enc : TypeId × Value → H} {W : World} {fuel : Nat} {a : Option Addr} {len cap : Nat} {x : DataW H × List MemPlace} (h : DataW.trod enc Try.prog W 0 (fun _ => true) true fuel 35 [.slice a len cap] = some x) :
    CPlays.IsActs W a len ∧ len ≤ 9223372036854775807 := by
  rcases Go.Deep.open_slice Try.underlying35 h with ⟨hcs, _⟩ | ⟨ad, l, c, m, n, D, Pl, hcs, _, hl, hm, hmm, _, hi⟩
  · simp at hcs
    obtain ⟨rfl, rfl, rfl⟩ := hcs
    exact ⟨fun i hi => by omega, by omega⟩
  · simp at hcs
    obtain ⟨rfl, rfl, rfl⟩ := hcs
    simp only [if_true] at hmm
    subst hmm
    refine ⟨fun i hil => ?_, by unfold maxLen at hm; omega⟩
    have c3 : Try.prog.cellsOf 41 = 3 := by kernel_rfl
    have ci : Try.prog.cellsOf 3 = 1 := by kernel_rfl
    have cs : Try.prog.cellsOf 9 = 1 := by kernel_rfl
    obtain ⟨b, off, sp⟩ := ad
    have each : ∀ j, j < len → ∃ v0 v1 v2, W.cell? ((⟨b, off, sp⟩ : Addr).add (j * 3)) = some v0 ∧ W.cell? ((⟨b, off, sp⟩ : Addr).add (j * 3 + 1)) = some v1 ∧ W.cell? ((⟨b, off, sp⟩ : Addr).add (j * 3 + 2)) = some v2 ∧
        ∃ k y0 y1 y2, DataW.trod enc Try.prog W 0 (fun _ => true) true k 3 [v0] = some y0 ∧ DataW.trod enc Try.prog W 0 (fun _ => true) true k 9 [v1] = some y1 ∧ DataW.trod enc Try.prog W 0 (fun _ => true) true k 3 [v2] = some y2 := by
      intro j hj
      obtain ⟨cs', h1, h2⟩ := hi j (by omega)
      rw [c3] at h1
      obtain ⟨_, hlen, hcell⟩ := World.cells?_some h1
      obtain ⟨y0, y1, y2, k, _, _, g0, g1, g2⟩ := Go.Deep.trod_struct3 Try.underlying41 h2
      match cs', hlen with
      | [v0, v1, v2], _ =>
        have e0 := hcell 0 (by omega)
        have e1 := hcell 1 (by omega)
        have e2 := hcell 2 (by omega)
        rw [Go.Deep.add_add] at e0 e1 e2
        exact ⟨v0, v1, v2, by simpa using e0, by simpa using e1, by simpa using e2, k, y0, y1, y2, by simpa [ci] using g0, by simpa [cs] using g1, by simpa [ci] using g2⟩
    obtain ⟨u0, _, _, h0, _⟩ := each 0 (by omega)
    have hs : sp = none := by simpa [Addr.add] using World.cell?_spot h0
    subst hs
    obtain ⟨v0, v1, v2, e0, e1, e2, k, y0, y1, y2, t0, t1, t2⟩ := each i hil
    obtain ⟨k0, hv0, _, _⟩ := DataW.trod_int Try.underlying3 t0
    obtain ⟨k2, hv2, _, _⟩ := DataW.trod_int Try.underlying3 t2
    obtain ⟨s, hv1, _, hs1⟩ := DataW.trod_string Try.underlying9 t1
    rw [add_plain] at e0 e1 e2
    simp at hv0 hv1 hv2
    rw [hv0] at e0
    rw [hv1] at e1
    rw [hv2] at e2
    exact ⟨b, off, _, _, _, rfl, World.block_lt_of_cell? W _ e0, hs1, e0, by rw [Nat.add_assoc]; exact e1, by rw [Nat.add_assoc]; exact e2⟩

/-! ### THE ROW's STEP: WRITTEN OUT: LEAVE IT -/
set_option maxRecDepth 100000 in
theorem lifted (os : Os) (started : os.Started) (H : Type) (enc : TypeId × Value → H) :
    ReturnsInHanded {} Try.checked os 4 .any (Rows.cachePlaysSpec.pre6 enc Try.prog Try.f4 Rows.cachePlaysRow.domain false) (Rows.cachePlaysSpec.post enc Try.prog Try.f4 false true false false) := by
  refine returnsInHanded_of_change (C := Try.checked) own started (by kernel_rfl) Try.func4
    (ChangeSpec.witness6 (enc := enc) (C := Try.checked) false ⟨#[], #[.int .i64 0, .slice none 0 0], []⟩ 8 (by kernel_rfl) (by kernel_rfl) (by kernel_rfl) (by kernel_rfl)) ?_
  intro W base args ds gs before hval0 hW hcnd _
  have hval : ∀ (j : Nat) t v, Try.f4.params[j]? = some t → args[j]? = some v → Value.okWide Try.prog W .any base t v := hval0
  have hW' := hW
  obtain ⟨p, q, hA0, hV, rfl, hfz, hnd⟩ := hW
  have hA : DataW.TrodAll enc Try.prog W 0 (fun _ => true) true Try.f4.params.toList args.toList ds p := hA0
  rw [Try.params4] at hA hval
  obtain ⟨v0, vs0, d0, ds0, p0, q0, hargs, rfl, rfl, h0, r0⟩ := trodAll_cons hA
  obtain ⟨v1, vs1, d1, ds1, p1, q1, rfl, rfl, rfl, h1, r1⟩ := trodAll_cons r0
  obtain ⟨rfl, rfl, rfl⟩ := trodAll_nil r1
  obtain rfl : args = #[v0, v1] := by cases args; simp_all
  obtain ⟨rfl, rfl⟩ := trodVars_none hV
  obtain ⟨a0, rfl, rfl, rfl, w0⟩ := open_int Try.underlying3 (hval 0 3 v0 rfl rfl) h0
  obtain ⟨a1, len1, cap1, rfl⟩ := okWide_slice Try.underlying35 (hval 1 35 v1 rfl rfl)
  have k1 := h1
  have lt1 : ∀ x ∈ p1, x.block < W.heap.size := by obtain ⟨m, hm⟩ := k1; exact DataW.trod_lt m _ _ _ hm
  obtain ⟨w1, m1⟩ : CPlays.IsActs W a1 len1 ∧ len1 ≤ 9223372036854775807 := by
    obtain ⟨fuel, hf⟩ := h1
    exact acts_view (by simpa [Value.cells] using hf)
  clear hA0 hval0
  refine (CPlays.walk a0 a1 len1 cap1 W w1 m1).mono fun e W' ⟨he, bel⟩ => ?_
  subst he
  exact ⟨_, rfl, _, _, _, [], _, [], hW', trodAll_mk1 (shut_bool Try.underlying4 _), (trodAll_cons_mk (shut_int Try.underlying3 w0) (trodAll_cons_mk (Below.trod laidOut (by kernel_rfl) (of_decide_eq_true (by kernel_rfl)) k1 bel lt1) trodAll_mk0)), rfl, bel.frame _, fun h => by cases h⟩

theorem over : Rows.cachePlaysRow.holds Try.pinned (OpenSpec.ofChange Rows.cachePlaysSpec) :=
  OpenClaim.holds_of_wide 4 Try.f4 rfl rfl rfl rfl rfl rfl rfl ⟨rfl, rfl, rfl, rfl, rfl⟩ rfl rfl rfl rfl rfl (by kernel_rfl) Try.func4 (by kernel_rfl)
    (of_decide_eq_true (by kernel_rfl)) (by unfold Func.isWrapper; first | (rw [if_pos (by decide +kernel)]; kernel_rfl) | (rw [if_neg (by decide +kernel)]; exact ⟨rfl, rfl⟩))
    (fun os started H enc _ => lifted os started H enc)

/-- the statement -/
theorem proved : Rows.CachePlaysSaid := over
#print axioms proved
end Go.Proofs.Ytkbcfagggjfhhaa.cachePlays
