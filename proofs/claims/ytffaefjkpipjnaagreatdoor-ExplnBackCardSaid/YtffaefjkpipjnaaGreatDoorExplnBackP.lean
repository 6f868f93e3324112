/- 'planimeterlaw31.ExplnBack' returns true for every input, and each argument reads afterwards as it read before; math/bits' table is tied to the program's text. Conditions: none. -/
import Derived.Test.YtffaefjkpipjnaaGreatDoorCards
import Derived.Test.YtffaefjkpipjnaaGreatDoorTie
import Derived.Test.YtffaefjkpipjnaaGreatDoorPkC09
import Derived.Test.YtffaefjkpipjnaaGreatDoorPkC33
import Derived.Deep.DeepHandedRow
import Derived.Lib.SmallJoins
import Derived.WalkKit
import Derived.ProofKit
import Derived.OpenShut
import Derived.ShutString
import Derived.ChangeOld
import Derived.Below
namespace Go.Proofs.YtffaefjkpipjnaaGreatDoor.explnBack
open Go.ChangeShapes Go.WideShapes Go.ChangeAt Go.RowKit
set_option linter.unusedVariables false

theorem own:ownKnob Tryz.prog.godebug=none:=by kernel_rfl
theorem laidOut:laidOutB Tryz.prog=true:=by kernel_rfl
theorem laid_met (os:Os):laidMet Tryz.prog Rows.explnBackRow.laid ((laidWorld os).forCall (fun _ _=>0) ⟨#[],#[.int .u64 0],[]⟩).memory:=
 laidMet_of_run' 8 (by kernel_rfl) (by kernel_rfl)
theorem reads (os:Os) {H:Type}(enc:TypeId×Value→H):∃places,DataW.whole enc Tryz.prog ((laidWorld os).forCall (fun _ _=>0) ⟨#[],#[.int .u64 0],[]⟩).memory Tryz.f3.params.toList Rows.explnBackSpec.vars false (#[.int .u64 0]:Array Value).toList 8=some ([.lit (.int .u64 0)],[],places):=
 ⟨[],by kernel_rfl⟩

set_option maxRecDepth 100000 in
theorem lifted (os:Os) (started:os.Started) (H:Type) (enc:TypeId×Value→H) (F:Stop.Interp):
 ReturnsInHanded {} Tryz.checked os 3 .any ((OpenSpec.ofChange Rows.explnBackSpec).preRow enc Tryz.prog Tryz.f3 Rows.explnBackRow.domain false Rows.explnBackRow.laid) (((OpenSpec.ofChange Rows.explnBackSpec).at F).post enc Tryz.prog Tryz.f3 false true false false):=by
 obtain⟨places,hx⟩:=reads os enc
 refine returnsInHanded_of_row (C:=Tryz.checked) (s:=OpenSpec.ofChange Rows.explnBackSpec) own started (by kernel_rfl) Tryz.func3
  (witness_row_at (enc:=enc) (C:=Tryz.checked) false (laidWorld os) #[.int .u64 0] rfl (by kernel_rfl) (by kernel_rfl) (by kernel_rfl)
    (OpenSpec.preRow_of_cond 8 hx (by kernel_rfl) (fun k hk=>by cases hk) (by kernel_rfl) (laid_met os))) ?_
 intro W base args ds gs before hval0 hW0 _ _ _ hL _ _
 have hW:DataW.Whole enc Tryz.prog Tryz.f3.params.toList Rows.explnBackSpec.vars false W args.toList ds gs before:=hW0
 clear hW0
 have hval:∀(j:Nat) t v,Tryz.f3.params[j]?=some t→args[j]?=some v→Value.okWide Tryz.prog W .any base t v:=hval0
 have hW':=hW
 obtain⟨p,q,hA0,hV,rfl,hfz,hnd⟩:=hW
 have hA:DataW.TrodAll enc Tryz.prog W 0 (fun _=>true) true Tryz.f3.params.toList args.toList ds p:=hA0
 rw[Tryz.params3]at hA hval
 obtain⟨v0,vs0,d0,ds0,p0,q0,hargs,rfl,rfl,h0,r0⟩:=trodAll_cons hA
 obtain⟨rfl,rfl,rfl⟩:=trodAll_nil r0
 obtain rfl:args= #[v0]:=by cases args;simp_all
 obtain⟨rfl,rfl⟩:=trodVars_none hV
 obtain⟨a0,rfl,rfl,rfl,w0⟩:=open_int Tryz.underlying22 (hval 0 22 v0 rfl rfl) h0
 clear hA0 hval0
 refine(PXBack.walk a0 W w0 (tab_of_laid hL)).mono fun e W' ⟨he,bel⟩=>?_
 subst he
 show∃v,_∧Rows.explnBackSpec.post enc Tryz.prog Tryz.f3 false true false false W _ v W'
 exact⟨_,rfl,_,_,_,[],_,[],hW',trodAll_mk1 (shut_bool Tryz.underlying4 _),(trodAll_cons_mk (shut_int Tryz.underlying22 w0) trodAll_mk0),rfl,bel.frame _,fun h=>by cases h⟩

theorem said:Rows.ExplnBackSaid:=
 OpenClaim.holds_of_cond 3 Tryz.f3 rfl rfl rfl rfl rfl rfl rfl ⟨rfl,rfl,rfl,rfl,rfl⟩ rfl rfl rfl rfl rfl (by kernel_rfl) Tryz.func3 (by kernel_rfl)
  (of_decide_eq_true (by kernel_rfl)) (by unfold Func.isWrapper;first|(rw[if_pos (by decide+kernel)];kernel_rfl)|(rw[if_neg (by decide+kernel)];exact⟨rfl,rfl⟩))
  (fun os started H enc _ F=>by rw[OpenClaim.pre_eq_preRow];exact lifted os started H enc F)

theorem noStand:(Tryz.f3.params.all fun t=>!Tryz.prog.wantsStandIn t)=true:=by kernel_rfl
/-- No parameter wants a stand-in; the program's own looks are off: what the card asks. -/
theorem plain (f:FuncId) (fn:Func) (hf:Tryz.pinned.checked.prog.funcNamed "planimeter/planimeterlaw31.ExplnBack" =some f) (hfn:Tryz.pinned.checked.prog.funcs[f]?=some fn):
 false=Tryz.pinned.checked.prog.looks []∧∀(j:Nat) t,fn.params[j]?=some t→Tryz.pinned.checked.prog.wantsStandIn t=false:=by
 obtain rfl:f=3:=Option.some.inj ((show Tryz.prog.funcNamed "planimeter/planimeterlaw31.ExplnBack" =some 3 by kernel_rfl).symm.trans hf)|>.symm
 obtain rfl:fn=Tryz.f3:=(Option.some.inj (Tryz.func3.symm.trans hfn)).symm
 refine⟨by kernel_rfl,fun j t ht=>?_⟩
 have h:=(Array.all_eq_true_iff_forall_mem.1 noStand) t (Array.mem_of_getElem? ht)
 rw[Bool.not_eq_true']at h
 exact h

/-- the card -/
theorem proved:Rows.ExplnBackCardSaid:=
 Claim7.holds_tied_plain_at .later [] _ _ _ _ said (fun _ h=>by cases h) (by kernel_rfl) (fun _ h=>by cases h) explnBack_row_tie rfl ⟨rfl,rfl⟩ (by kernel_rfl) rfl plain (by kernel_rfl)
#print axioms proved
end Go.Proofs.YtffaefjkpipjnaaGreatDoor.explnBack
