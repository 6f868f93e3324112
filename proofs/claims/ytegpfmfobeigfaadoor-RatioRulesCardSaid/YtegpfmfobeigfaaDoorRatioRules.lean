/- 'planimeterlaw10.RatioRules' returns true for every input, and each argument reads afterwards as it read before; math/bits' table is tied to the program's text. Conditions: none. -/
import Derived.Test.YtegpfmfobeigfaaDoorCards
import Derived.Test.YtegpfmfobeigfaaDoorTie
import Derived.Test.YtegpfmfobeigfaaDoorDoor
import Derived.Test.YtegpfmfobeigfaaDoorRatioRulesWalk
import Derived.Deep.DeepHandedRow
import Derived.Lib.SmallJoins
import Derived.WalkKit
import Derived.ProofKit
import Derived.OpenShut
import Derived.ShutString
import Derived.ChangeOld
import Derived.Below
namespace Go.Proofs.YtegpfmfobeigfaaDoor.ratioRules
open Go.ChangeShapes Go.WideShapes Go.ChangeAt Go.RowKit
set_option linter.unusedVariables false

theorem own : ownKnob Tryd.prog.godebug = none := by kernel_rfl
theorem laidOut : laidOutB Tryd.prog = true := by kernel_rfl
theorem laid_met (os : Os) : laidMet Tryd.prog Rows.ratioRulesRow.laid ((laidWorld os).forCall (fun _ _ => 0) ⟨#[], #[.agg #[.bool false, .slice none 0 0, .int .i64 0], .int .i8 0, .agg #[.bool false, .slice none 0 0, .int .i64 0], .int .u8 0, .agg #[.bool false, .slice none 0 0, .int .i64 0], .int .u8 0], []⟩).memory :=
  laidMet_of_run' 8 (by kernel_rfl) (by kernel_rfl)
theorem reads (os : Os) {H : Type} (enc : TypeId × Value → H) : ∃ places, DataW.whole enc Tryd.prog ((laidWorld os).forCall (fun _ _ => 0) ⟨#[], #[.agg #[.bool false, .slice none 0 0, .int .i64 0], .int .i8 0, .agg #[.bool false, .slice none 0 0, .int .i64 0], .int .u8 0, .agg #[.bool false, .slice none 0 0, .int .i64 0], .int .u8 0], []⟩).memory Tryd.f6.params.toList Rows.ratioRulesSpec.vars false (#[.agg #[.bool false, .slice none 0 0, .int .i64 0], .int .i8 0, .agg #[.bool false, .slice none 0 0, .int .i64 0], .int .u8 0, .agg #[.bool false, .slice none 0 0, .int .i64 0], .int .u8 0] : Array Value).toList 8 = some ([.agg [.lit (.bool false), .nil, .lit (.int .i64 0)], .lit (.int .i8 0), .agg [.lit (.bool false), .nil, .lit (.int .i64 0)], .lit (.int .u8 0), .agg [.lit (.bool false), .nil, .lit (.int .i64 0)], .lit (.int .u8 0)], [], places) :=
  ⟨[], by kernel_rfl⟩

set_option maxRecDepth 100000 in
theorem lifted (os : Os) (started : os.Started) (H : Type) (enc : TypeId × Value → H) (F : Stop.Interp) :
    ReturnsInHanded {} Tryd.checked os 6 .any ((OpenSpec.ofChange Rows.ratioRulesSpec).preRow enc Tryd.prog Tryd.f6 Rows.ratioRulesRow.domain false Rows.ratioRulesRow.laid) (((OpenSpec.ofChange Rows.ratioRulesSpec).at F).post enc Tryd.prog Tryd.f6 false true false false) := by
  obtain ⟨places, hx⟩ := reads os enc
  refine returnsInHanded_of_row (C := Tryd.checked) (s := OpenSpec.ofChange Rows.ratioRulesSpec) own started (by kernel_rfl) Tryd.func6
    (witness_row_at (enc := enc) (C := Tryd.checked) false (laidWorld os) #[.agg #[.bool false, .slice none 0 0, .int .i64 0], .int .i8 0, .agg #[.bool false, .slice none 0 0, .int .i64 0], .int .u8 0, .agg #[.bool false, .slice none 0 0, .int .i64 0], .int .u8 0] rfl (by kernel_rfl) (by kernel_rfl) (by kernel_rfl)
      (OpenSpec.preRow_of_cond 8 hx (by kernel_rfl) (fun k hk => by cases hk) (by kernel_rfl) (laid_met os))) ?_
  intro W base args ds gs before hval0 hW0 _ _ _ hL _ _
  have hW : DataW.Whole enc Tryd.prog Tryd.f6.params.toList Rows.ratioRulesSpec.vars false W args.toList ds gs before := hW0
  clear hW0
  have hval : ∀ (j : Nat) t v, Tryd.f6.params[j]? = some t → args[j]? = some v → Value.okWide Tryd.prog W .any base t v := hval0
  have hW' := hW
  obtain ⟨p, q, hA0, hV, rfl, hfz, hnd⟩ := hW
  have hA : DataW.TrodAll enc Tryd.prog W 0 (fun _ => true) true Tryd.f6.params.toList args.toList ds p := hA0
  rw [Tryd.params6] at hA hval
  obtain ⟨v0, vs0, d0, ds0, p0, q0, hargs, rfl, rfl, h0, r0⟩ := trodAll_cons hA
  obtain ⟨v1, vs1, d1, ds1, p1, q1, rfl, rfl, rfl, h1, r1⟩ := trodAll_cons r0
  obtain ⟨v2, vs2, d2, ds2, p2, q2, rfl, rfl, rfl, h2, r2⟩ := trodAll_cons r1
  obtain ⟨v3, vs3, d3, ds3, p3, q3, rfl, rfl, rfl, h3, r3⟩ := trodAll_cons r2
  obtain ⟨v4, vs4, d4, ds4, p4, q4, rfl, rfl, rfl, h4, r4⟩ := trodAll_cons r3
  obtain ⟨v5, vs5, d5, ds5, p5, q5, rfl, rfl, rfl, h5, r5⟩ := trodAll_cons r4
  obtain ⟨rfl, rfl, rfl⟩ := trodAll_nil r5
  obtain rfl : args = #[v0, v1, v2, v3, v4, v5] := by cases args; simp_all
  obtain ⟨rfl, rfl⟩ := trodVars_none hV
  have k0 := h0
  have lt0 : ∀ x ∈ p0, x.block < W.heap.size := by obtain ⟨m, hm⟩ := k0; exact DataW.trod_lt m _ _ _ hm
  obtain ⟨u00, u01, u02, y00, y01, y02, n0, rfl, -, -, g00, g01, g02⟩ := Go.Joins.open_agg3 Tryd.underlying24 (by kernel_rfl) (by kernel_rfl) (hval 0 24 _ rfl rfl) h0
  obtain ⟨b0, hb0, -⟩ := DataW.trod_bool Tryd.underlying4 g00
  simp only [List.cons.injEq, and_true] at hb0
  subst hb0
  obtain ⟨e0, he0, -, we0⟩ := DataW.trod_int Tryd.underlying3 g02
  simp only [List.cons.injEq, and_true] at he0
  subst he0
  obtain ⟨a0, len0, cap0, z0, hs0, w0⟩ : ∃ a len cap zs, u01 = .slice a len cap ∧ IsRow .u64 W a len cap zs := by
    rcases open_ints Tryd.underlying22 Tryd.underlying49 (by kernel_rfl) g01 with ⟨hcs, _⟩ | ⟨x, l, c, zs, hcs, _, hl, hm, hz, _, hcell, hwz⟩
    · simp only [List.cons.injEq, and_true] at hcs
      exact ⟨_, _, _, [], hcs, .inl ⟨rfl, rfl, rfl, rfl⟩⟩
    · simp only [List.cons.injEq, and_true] at hcs
      exact ⟨_, _, _, zs, hcs, .inr ⟨_, rfl, hl, hm, by simpa using hz, hcell, hwz⟩⟩
  subst hs0
  obtain ⟨a1, rfl, rfl, rfl, w1⟩ := open_int Tryd.underlying50 (hval 1 50 v1 rfl rfl) h1
  have k2 := h2
  have lt2 : ∀ x ∈ p2, x.block < W.heap.size := by obtain ⟨m, hm⟩ := k2; exact DataW.trod_lt m _ _ _ hm
  obtain ⟨u20, u21, u22, y20, y21, y22, n2, rfl, -, -, g20, g21, g22⟩ := Go.Joins.open_agg3 Tryd.underlying24 (by kernel_rfl) (by kernel_rfl) (hval 2 24 _ rfl rfl) h2
  obtain ⟨b2, hb2, -⟩ := DataW.trod_bool Tryd.underlying4 g20
  simp only [List.cons.injEq, and_true] at hb2
  subst hb2
  obtain ⟨e2, he2, -, we2⟩ := DataW.trod_int Tryd.underlying3 g22
  simp only [List.cons.injEq, and_true] at he2
  subst he2
  obtain ⟨a2, len2, cap2, z2, hs2, w2⟩ : ∃ a len cap zs, u21 = .slice a len cap ∧ IsRow .u64 W a len cap zs := by
    rcases open_ints Tryd.underlying22 Tryd.underlying49 (by kernel_rfl) g21 with ⟨hcs, _⟩ | ⟨x, l, c, zs, hcs, _, hl, hm, hz, _, hcell, hwz⟩
    · simp only [List.cons.injEq, and_true] at hcs
      exact ⟨_, _, _, [], hcs, .inl ⟨rfl, rfl, rfl, rfl⟩⟩
    · simp only [List.cons.injEq, and_true] at hcs
      exact ⟨_, _, _, zs, hcs, .inr ⟨_, rfl, hl, hm, by simpa using hz, hcell, hwz⟩⟩
  subst hs2
  obtain ⟨a3, rfl, rfl, rfl, w3⟩ := open_int Tryd.underlying5 (hval 3 5 v3 rfl rfl) h3
  have k4 := h4
  have lt4 : ∀ x ∈ p4, x.block < W.heap.size := by obtain ⟨m, hm⟩ := k4; exact DataW.trod_lt m _ _ _ hm
  obtain ⟨u40, u41, u42, y40, y41, y42, n4, rfl, -, -, g40, g41, g42⟩ := Go.Joins.open_agg3 Tryd.underlying24 (by kernel_rfl) (by kernel_rfl) (hval 4 24 _ rfl rfl) h4
  obtain ⟨b4, hb4, -⟩ := DataW.trod_bool Tryd.underlying4 g40
  simp only [List.cons.injEq, and_true] at hb4
  subst hb4
  obtain ⟨e4, he4, -, we4⟩ := DataW.trod_int Tryd.underlying3 g42
  simp only [List.cons.injEq, and_true] at he4
  subst he4
  obtain ⟨a4, len4, cap4, z4, hs4, w4⟩ : ∃ a len cap zs, u41 = .slice a len cap ∧ IsRow .u64 W a len cap zs := by
    rcases open_ints Tryd.underlying22 Tryd.underlying49 (by kernel_rfl) g41 with ⟨hcs, _⟩ | ⟨x, l, c, zs, hcs, _, hl, hm, hz, _, hcell, hwz⟩
    · simp only [List.cons.injEq, and_true] at hcs
      exact ⟨_, _, _, [], hcs, .inl ⟨rfl, rfl, rfl, rfl⟩⟩
    · simp only [List.cons.injEq, and_true] at hcs
      exact ⟨_, _, _, zs, hcs, .inr ⟨_, rfl, hl, hm, by simpa using hz, hcell, hwz⟩⟩
  subst hs4
  obtain ⟨a5, rfl, rfl, rfl, w5⟩ := open_int Tryd.underlying5 (hval 5 5 v5 rfl rfl) h5
  clear hA0 hval0
  refine (PRRules.walk b0 a0 len0 cap0 z0 e0 a1 b2 a2 len2 cap2 z2 e2 a3 b4 a4 len4 cap4 z4 e4 a5 W w0 we0 w1 w2 we2 w3 w4 we4 w5 (tab_of_laid hL)).mono fun e W' ⟨he, bel⟩ => ?_
  subst he
  show ∃ v, _ ∧ Rows.ratioRulesSpec.post enc Tryd.prog Tryd.f6 false true false false W _ v W'
  exact ⟨_, rfl, _, _, _, [], _, [], hW', trodAll_mk1 (shut_bool Tryd.underlying4 _), (trodAll_cons_mk (Below.trod laidOut (by kernel_rfl) (of_decide_eq_true (by kernel_rfl)) k0 bel lt0) (trodAll_cons_mk (shut_int Tryd.underlying50 w1) (trodAll_cons_mk (Below.trod laidOut (by kernel_rfl) (of_decide_eq_true (by kernel_rfl)) k2 bel lt2) (trodAll_cons_mk (shut_int Tryd.underlying5 w3) (trodAll_cons_mk (Below.trod laidOut (by kernel_rfl) (of_decide_eq_true (by kernel_rfl)) k4 bel lt4) (trodAll_cons_mk (shut_int Tryd.underlying5 w5) trodAll_mk0)))))), rfl, bel.frame _, fun h => by cases h⟩

theorem said : Rows.RatioRulesSaid :=
  OpenClaim.holds_of_cond 6 Tryd.f6 rfl rfl rfl rfl rfl rfl rfl ⟨rfl, rfl, rfl, rfl, rfl⟩ rfl rfl rfl rfl rfl (by kernel_rfl) Tryd.func6 (by kernel_rfl)
    (of_decide_eq_true (by kernel_rfl)) (by unfold Func.isWrapper; first | (rw [if_pos (by decide +kernel)]; kernel_rfl) | (rw [if_neg (by decide +kernel)]; exact ⟨rfl, rfl⟩))
    (fun os started H enc _ F => by rw [OpenClaim.pre_eq_preRow]; exact lifted os started H enc F)

theorem noStand : (Tryd.f6.params.all fun t => !Tryd.prog.wantsStandIn t) = true := by kernel_rfl
/-- No parameter wants a stand-in; the program's own looks are off: what the card asks. -/
theorem plain (f : FuncId) (fn : Func) (hf : Tryd.pinned.checked.prog.funcNamed "planimeter/planimeterlaw10.RatioRules" = some f) (hfn : Tryd.pinned.checked.prog.funcs[f]? = some fn) :
    false = Tryd.pinned.checked.prog.looks [] ∧ ∀ (j : Nat) t, fn.params[j]? = some t → Tryd.pinned.checked.prog.wantsStandIn t = false := by
  obtain rfl : f = 6 := Option.some.inj ((show Tryd.prog.funcNamed "planimeter/planimeterlaw10.RatioRules" = some 6 by kernel_rfl).symm.trans hf) |>.symm
  obtain rfl : fn = Tryd.f6 := (Option.some.inj (Tryd.func6.symm.trans hfn)).symm
  refine ⟨by kernel_rfl, fun j t ht => ?_⟩
  have h := (Array.all_eq_true_iff_forall_mem.1 noStand) t (Array.mem_of_getElem? ht)
  rw [Bool.not_eq_true'] at h
  exact h

/-- the card -/
theorem proved : Rows.RatioRulesCardSaid :=
  Claim7.holds_tied_plain_at .later [] _ _ _ _ said (fun _ h => by cases h) (by kernel_rfl) (fun _ h => by cases h) ratioRules_row_tie rfl ⟨rfl, rfl⟩ (by kernel_rfl) rfl plain (by kernel_rfl)
#print axioms proved
end Go.Proofs.YtegpfmfobeigfaaDoor.ratioRules
