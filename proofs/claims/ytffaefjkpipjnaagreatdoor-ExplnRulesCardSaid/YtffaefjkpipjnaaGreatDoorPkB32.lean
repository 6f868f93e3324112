/- expln.Exp1 by its contract. Conditions: the bits are bits; the plan and the direction are right. (Printed by wip/gen/gen_elxh.py.) -/
import Derived.Test.YtffaefjkpipjnaaGreatDoorPkB31
import Derived.Test.YtffaefjkpipjnaaGreatDoorPkB23
import Derived.Test.YtffaefjkpipjnaaGreatDoorPkB16
import Derived.Test.YtffaefjkpipjnaaGreatDoorPkB14
import Derived.Deep.RegionHeld3
import Derived.Deep.CutBlock
import Derived.Test.YtffaefjkpipjnaaGreatDoorPkB11
import Derived.Test.YtffaefjkpipjnaaGreatDoorPkB05
import Derived.Test.YtffaefjkpipjnaaGreatDoorPkB06
import Derived.BigQuiet
import Derived.Deep.QuietTactic
import Derived.Test.YtffaefjkpipjnaaGreatDoorPkB12
import Derived.StillTailTactics
import Derived.Test.YtffaefjkpipjnaaGreatDoorPkB22
namespace Go.Proofs.YtffaefjkpipjnaaGreatDoor
set_option linter.unusedVariables false
set_option linter.unusedSimpArgs false
set_option maxRecDepth 100000
open Go.RowKit Go.ChangeShapes Go.WideShapes
def Ex1Res (x fr pt:Nat) (dir:Int) (b:Nat) (f st tr:Int):Prop:=
 (topD (dyB x)< -60∧BesR x dir b f∧st=0∧tr=0)∨(¬topD (dyB x)< -60∧710≤qv (dyB x)∧resB 1 false dir=(b,f,true)∧st=0∧tr=0)∨
 (¬topD (dyB x)< -60∧qv (dyB x)≤-80∧resB 4 true dir=(b,f,true)∧st=0∧tr=0)∨
 (¬topD (dyB x)< -60∧-80<qv (dyB x)∧qv (dyB x)<710∧∃l,PlanR fr pt l∧RunR (IvEx1 (dyB x) (negN x)) (negN x) dir l b f st tr)
theorem eex1_ninf {w:World}{x fr pt:Nat}{dir:Int}(hx:x<18446744073709551616) (h1:32≤fr) (h2:fr≤pt) (h3:64≤pt) (h4:pt≤7000) (d0:0≤dir) (d3:dir≤3) (hT:Tab w) (hk:kindN x=3) (hn:negN x=true):
 Calls Tryz.prog 37 #[L64 x,.agg #[.int .i64 dir,.int .i64 (fr:Int),.int .i64 (pt:Int),.pointer none]] w (fun r w'=>r= .returned (.tuple #[.agg #[.int .u64 13830554455654793216,.int .u8 0,.int .i64 0],.int .i64 0,.int .i64 0])∧Below w.heap.size w w'):=by
 have HE:=Lib.hid (fun w=>early_n (w:=w) hx h1 h2 h3 (by omega) d0 d3 hk (by omega))
 have HD:=Lib.hid (fun w=>fdyad_no (w:=w) hx (fin_of_kind hk))
 have HN:=Lib.hid (fun w=>fneg_n (w:=w) hx)
 rw[hn]at HN
 have HI:=Lib.hid (fun w=>show Calls Tryz.prog 25 #[.int .u64 13830554455654793216] w _ from eis_n (w:=w) (b:=13830554455654793216))
 have HT:=Lib.hid (fun w (hT:Tab w)=>Top_z (w:=w) (v:= .slice none 0 0) (neg:=false) (E:=0) (Num.nil _) hT (by decide) (by decide))
 clear h1 h2 h3 h4 d0 d3 hx hk hn
 go_enter Tryz.func37,Tryz.ntmps37
 go_wp2_with
  (first
    |(go_at_call 22;(with_reducible refine(HE.out _).mono ?_);rintro e w1 ⟨rfl,hb1⟩;have B1:=below_2.trans (hb1.mono below_2.size);have T1:=((hT.below below_2)).below hb1;have P1:=((blk_a1)).below hb1;have R1:=((blk_a2)).below hb1;obtain⟨cP0_1,cP1_1,cP2_1,cP3_1,fP0_1,fP1_1,fP2_1,fP3_1,sP_1⟩:=P1.open4;obtain⟨cR0_1,cR1_1,cR2_1,fR0_1,fR1_1,fR2_1,sR_1⟩:=R1.open3)
    |(go_at_call 23;(with_reducible refine(HD.out _).mono ?_);rintro e w2 ⟨rfl,hb2⟩;have hb2':=(below_a hb2);have B2:=B1.trans (hb2'.mono B1.size);have T2:=T1.below hb2';have P2:=P1.below hb2';have R2:=R1.below hb2';clear T1 P1 R1;clear cP0_1 cP1_1 cP2_1 cP3_1 fP0_1 fP1_1 fP2_1 fP3_1 sP_1;obtain⟨cP0_2,cP1_2,cP2_2,cP3_2,fP0_2,fP1_2,fP2_2,fP3_2,sP_2⟩:=P2.open4;clear cR0_1 cR1_1 cR2_1 fR0_1 fR1_1 fR2_1 sR_1;obtain⟨cR0_2,cR1_2,cR2_2,fR0_2,fR1_2,fR2_2,sR_2⟩:=R2.open3)
    |(go_at_call 69;(with_reducible refine(HT.out _ (T2.below (below_alloc _ _))).mono ?_);rintro e w3 ⟨rfl,hb3⟩;have hb3':=(below_a hb3);have B3:=B2.trans (hb3'.mono B2.size);have T3:=T2.below hb3';have P3:=P2.below hb3';have R3:=R2.below hb3';clear T2 P2 R2;clear cP0_2 cP1_2 cP2_2 cP3_2 fP0_2 fP1_2 fP2_2 fP3_2 sP_2;obtain⟨cP0_3,cP1_3,cP2_3,cP3_3,fP0_3,fP1_3,fP2_3,fP3_3,sP_3⟩:=P3.open4;clear cR0_2 cR1_2 cR2_2 fR0_2 fR1_2 fR2_2 sR_2;obtain⟨cR0_3,cR1_3,cR2_3,fR0_3,fR1_3,fR2_3,sR_3⟩:=R3.open3)
    |(go_at_call 24;(with_reducible refine(HN.out _).mono ?_);rintro e w4 ⟨rfl,rfl⟩)
    |(go_at_call 25;(with_reducible refine(HI.out _).mono ?_);rintro e w5 ⟨rfl,hb5⟩;have B5:=B3.trans (hb5.mono B3.size);have T5:=T3.below hb5;have P5:=P3.below hb5;have R5:=R3.below hb5;clear T3 P3 R3;obtain⟨cP0_5,cP1_5,cP2_5,cP3_5,fP0_5,fP1_5,fP2_5,fP3_5,sP_5⟩:=P5.open4;obtain⟨cR0_5,cR1_5,cR2_5,fR0_5,fR1_5,fR2_5,sR_5⟩:=R5.open3)
    |fail)
 obtain⟨z0,z1,z2,-⟩:=(R5.set3 (.int .u64 13830554455654793216) (.int .u8 0) (.int .i64 0)).open3
 refine bodyPost_ret (v:= .tuple #[.agg #[.int .u64 13830554455654793216,.int .u8 0,.int .i64 0],.int .i64 0,.int .i64 0]) (by simp[results,Tryz.results37,go_sem,z0,z1,z2]) rfl ⟨rfl,below_set3b B5 (by omega) _ _ _⟩
theorem eex1_pinf {w:World}{x fr pt:Nat}{dir:Int}(hx:x<18446744073709551616) (h1:32≤fr) (h2:fr≤pt) (h3:64≤pt) (h4:pt≤7000) (d0:0≤dir) (d3:dir≤3) (hT:Tab w) (hk:kindN x=3) (hn:negN x=false):
 Calls Tryz.prog 37 #[L64 x,.agg #[.int .i64 dir,.int .i64 (fr:Int),.int .i64 (pt:Int),.pointer none]] w (fun r w'=>r= .returned (.tuple #[.agg #[L64 x,.int .u8 0,.int .i64 0],.int .i64 0,.int .i64 0])∧Below w.heap.size w w'):=by
 have HE:=Lib.hid (fun w=>early_n (w:=w) hx h1 h2 h3 (by omega) d0 d3 hk (by omega))
 have HD:=Lib.hid (fun w=>fdyad_no (w:=w) hx (fin_of_kind hk))
 have HN:=Lib.hid (fun w=>fneg_n (w:=w) hx)
 rw[hn]at HN
 have HI:=Lib.hid (fun w=>eis_n (w:=w) (b:=x))
 have HT:=Lib.hid (fun w (hT:Tab w)=>Top_z (w:=w) (v:= .slice none 0 0) (neg:=false) (E:=0) (Num.nil _) hT (by decide) (by decide))
 clear h1 h2 h3 h4 d0 d3 hx hk hn
 go_enter Tryz.func37,Tryz.ntmps37
 go_wp2_with
  (first
    |(go_at_call 22;(with_reducible refine(HE.out _).mono ?_);rintro e w1 ⟨rfl,hb1⟩;have B1:=below_2.trans (hb1.mono below_2.size);have T1:=((hT.below below_2)).below hb1;have P1:=((blk_a1)).below hb1;have R1:=((blk_a2)).below hb1;obtain⟨cP0_1,cP1_1,cP2_1,cP3_1,fP0_1,fP1_1,fP2_1,fP3_1,sP_1⟩:=P1.open4;obtain⟨cR0_1,cR1_1,cR2_1,fR0_1,fR1_1,fR2_1,sR_1⟩:=R1.open3)
    |(go_at_call 23;(with_reducible refine(HD.out _).mono ?_);rintro e w2 ⟨rfl,hb2⟩;have hb2':=(below_a hb2);have B2:=B1.trans (hb2'.mono B1.size);have T2:=T1.below hb2';have P2:=P1.below hb2';have R2:=R1.below hb2';clear T1 P1 R1;clear cP0_1 cP1_1 cP2_1 cP3_1 fP0_1 fP1_1 fP2_1 fP3_1 sP_1;obtain⟨cP0_2,cP1_2,cP2_2,cP3_2,fP0_2,fP1_2,fP2_2,fP3_2,sP_2⟩:=P2.open4;clear cR0_1 cR1_1 cR2_1 fR0_1 fR1_1 fR2_1 sR_1;obtain⟨cR0_2,cR1_2,cR2_2,fR0_2,fR1_2,fR2_2,sR_2⟩:=R2.open3)
    |(go_at_call 69;(with_reducible refine(HT.out _ (T2.below (below_alloc _ _))).mono ?_);rintro e w3 ⟨rfl,hb3⟩;have hb3':=(below_a hb3);have B3:=B2.trans (hb3'.mono B2.size);have T3:=T2.below hb3';have P3:=P2.below hb3';have R3:=R2.below hb3';clear T2 P2 R2;clear cP0_2 cP1_2 cP2_2 cP3_2 fP0_2 fP1_2 fP2_2 fP3_2 sP_2;obtain⟨cP0_3,cP1_3,cP2_3,cP3_3,fP0_3,fP1_3,fP2_3,fP3_3,sP_3⟩:=P3.open4;clear cR0_2 cR1_2 cR2_2 fR0_2 fR1_2 fR2_2 sR_2;obtain⟨cR0_3,cR1_3,cR2_3,fR0_3,fR1_3,fR2_3,sR_3⟩:=R3.open3)
    |(go_at_call 24;(with_reducible refine(HN.out _).mono ?_);rintro e w4 ⟨rfl,rfl⟩)
    |(go_at_call 25;(with_reducible refine(HI.out _).mono ?_);rintro e w5 ⟨rfl,hb5⟩;have B5:=B3.trans (hb5.mono B3.size);have T5:=T3.below hb5;have P5:=P3.below hb5;have R5:=R3.below hb5;clear T3 P3 R3;obtain⟨cP0_5,cP1_5,cP2_5,cP3_5,fP0_5,fP1_5,fP2_5,fP3_5,sP_5⟩:=P5.open4;obtain⟨cR0_5,cR1_5,cR2_5,fR0_5,fR1_5,fR2_5,sR_5⟩:=R5.open3)
    |fail)
 obtain⟨z0,z1,z2,-⟩:=(R5.set3 (L64 x) (.int .u8 0) (.int .i64 0)).open3
 refine bodyPost_ret (v:= .tuple #[.agg #[L64 x,.int .u8 0,.int .i64 0],.int .i64 0,.int .i64 0]) (by simp[results,Tryz.results37,go_sem,z0,z1,z2]) rfl ⟨rfl,below_set3b B5 (by omega) _ _ _⟩
theorem eex1_zero {w:World}{x fr pt:Nat}{dir:Int}(hx:x<18446744073709551616) (h1:32≤fr) (h2:fr≤pt) (h3:64≤pt) (h4:pt≤7000) (d0:0≤dir) (d3:dir≤3) (hT:Tab w) (hk:kindN x=0):
 Calls Tryz.prog 37 #[L64 x,.agg #[.int .i64 dir,.int .i64 (fr:Int),.int .i64 (pt:Int),.pointer none]] w (fun r w'=>r= .returned (.tuple #[.agg #[L64 x,.int .u8 0,.int .i64 0],.int .i64 0,.int .i64 0])∧Below w.heap.size w w'):=by
 have HE:=Lib.hid (fun w=>early_n (w:=w) hx h1 h2 h3 (by omega) d0 d3 hk (by omega))
 have hf:=kind_fin.1 (show kindN x<3 by omega)
 have hz:=(kind_zero hf).1 hk
 obtain⟨hm,-,-,-⟩:=dyB_mid hf
 have hm1:=hm.1;have hm2:=hm.2.1
 obtain⟨⟨n',m',e'⟩,hd⟩:∃d,dyB x=d:=⟨_,rfl⟩
 rw[hd]at hz hm1 hm2
 dsimp only at hz hm1 hm2
 subst hz
 have HD:=Lib.hid (fun w (hT:Tab w)=>fdyad_n (w:=w) hx hT hf hd)
 have HT:=Lib.hid (fun w v (h:RdN w v (digs BB 0)) (hT:Tab w)=>Top_z (neg:=n') (E:=e') (h.num (by rw[bitN_zero];decide)) hT (by omega) (by omega))
 have HI:=Lib.hid (fun w=>eis_n (w:=w) (b:=x))
 clear h1 h2 h3 h4 d0 d3 hx hk hf hd hm hm1 hm2
 go_enter Tryz.func37,Tryz.ntmps37
 go_wp2_with
  (first
    |(go_at_call 22;(with_reducible refine(HE.out _).mono ?_);rintro e w1 ⟨rfl,hb1⟩;have B1:=below_2.trans (hb1.mono below_2.size);have T1:=((hT.below below_2)).below hb1;have P1:=((blk_a1)).below hb1;have R1:=((blk_a2)).below hb1;obtain⟨cP0_1,cP1_1,cP2_1,cP3_1,fP0_1,fP1_1,fP2_1,fP3_1,sP_1⟩:=P1.open4;obtain⟨cR0_1,cR1_1,cR2_1,fR0_1,fR1_1,fR2_1,sR_1⟩:=R1.open3)
    |(go_at_call 23;(with_reducible refine(HD.out _ (T1.below (below_alloc _ _))).mono ?_);rintro e w2 ⟨v2,rfl,x2,hb2⟩;have hb2':=(below_a hb2);have B2:=B1.trans (hb2'.mono B1.size);have T2:=T1.below hb2';have P2:=P1.below hb2';have R2:=R1.below hb2';clear T1 P1 R1;clear cP0_1 cP1_1 cP2_1 cP3_1 fP0_1 fP1_1 fP2_1 fP3_1 sP_1;obtain⟨cP0_2,cP1_2,cP2_2,cP3_2,fP0_2,fP1_2,fP2_2,fP3_2,sP_2⟩:=P2.open4;clear cR0_1 cR1_1 cR2_1 fR0_1 fR1_1 fR2_1 sR_1;obtain⟨cR0_2,cR1_2,cR2_2,fR0_2,fR1_2,fR2_2,sR_2⟩:=R2.open3;obtain⟨ax2,kx2,rfl,-⟩:=x2.view;try simp only[List.length_nil]at x2)
    |(go_at_call 69;(with_reducible refine(HT.out _ _ (x2.below (below_alloc _ _)) (T2.below (below_alloc _ _))).mono ?_);rintro e w3 ⟨rfl,hb3⟩;have hb3':=(below_a hb3);have B3:=B2.trans (hb3'.mono B2.size);have T3:=T2.below hb3';have P3:=P2.below hb3';have R3:=R2.below hb3';have x3:=x2.below hb3';clear T2 P2 R2 x2;have D3:=blk_new.below hb3;clear cP0_2 cP1_2 cP2_2 cP3_2 fP0_2 fP1_2 fP2_2 fP3_2 sP_2;obtain⟨cP0_3,cP1_3,cP2_3,cP3_3,fP0_3,fP1_3,fP2_3,fP3_3,sP_3⟩:=P3.open4;clear cR0_2 cR1_2 cR2_2 fR0_2 fR1_2 fR2_2 sR_2;obtain⟨cR0_3,cR1_3,cR2_3,fR0_3,fR1_3,fR2_3,sR_3⟩:=R3.open3;obtain⟨cD0_3,cD1_3,cD2_3,fD0_3,fD1_3,fD2_3,sD_3⟩:=D3.open3)
    |(go_at_call 25;(with_reducible refine(HI.out _).mono ?_);rintro e w4 ⟨rfl,hb4⟩;have B4:=B3.trans (hb4.mono B3.size);have T4:=T3.below hb4;have P4:=P3.below hb4;have R4:=R3.below hb4;have x4:=x3.below hb4;have D4:=D3.below hb4;clear T3 P3 R3 x3 D3;clear cP0_3 cP1_3 cP2_3 cP3_3 fP0_3 fP1_3 fP2_3 fP3_3 sP_3;obtain⟨cP0_4,cP1_4,cP2_4,cP3_4,fP0_4,fP1_4,fP2_4,fP3_4,sP_4⟩:=P4.open4;clear cR0_3 cR1_3 cR2_3 fR0_3 fR1_3 fR2_3 sR_3;obtain⟨cR0_4,cR1_4,cR2_4,fR0_4,fR1_4,fR2_4,sR_4⟩:=R4.open3;clear cD0_3 cD1_3 cD2_3 fD0_3 fD1_3 fD2_3 sD_3;obtain⟨cD0_4,cD1_4,cD2_4,fD0_4,fD1_4,fD2_4,sD_4⟩:=D4.open3)
    |fail)
 obtain⟨z0,z1,z2,-⟩:=(R4.set3 (L64 x) (.int .u8 0) (.int .i64 0)).open3
 refine bodyPost_ret (v:= .tuple #[.agg #[L64 x,.int .u8 0,.int .i64 0],.int .i64 0,.int .i64 0]) (by simp[results,Tryz.results37,go_sem,z0,z1,z2]) rfl ⟨rfl,below_set3b B4 (by omega) _ _ _⟩
set_option maxHeartbeats 1000000 in
theorem eex1_tiny {w:World}{x fr pt:Nat}{dir:Int}(hx:x<18446744073709551616) (h1:32≤fr) (h2:fr≤pt) (h3:64≤pt) (h4:pt≤7000) (d0:0≤dir) (d3:dir≤3) (hT:Tab w) (hf:fldN x<2047) (hk0:kindN x≠0) (ht:topD (dyB x)< -60):
 Calls Tryz.prog 37 #[L64 x,.agg #[.int .i64 dir,.int .i64 (fr:Int),.int .i64 (pt:Int),.pointer none]] w (fun r w'=>∃b f st tr,r= .returned (.tuple #[.agg #[L64 b,.int .u8 f,.int .i64 st],.int .i64 tr,.int .i64 0])∧Ex1Res x fr pt dir b f st tr∧Below w.heap.size w w'):=by
 have hk:=kind_fin.2 hf
 have HE:=Lib.hid (fun w=>early_n (w:=w) (k:=kindN x) hx h1 h2 h3 (by omega) d0 d3 rfl (by omega))
 have hz:=fun h=>hk0 ((kind_zero hf).2 h)
 obtain⟨hm,hb,-,-⟩:=dyB_mid hf
 have hms:=hm.bits;have hm1:=hm.1;have hm2:=hm.2.1
 have HB:Hid (∀w,Tab w→Calls Tryz.prog 70 #[L64 x,.int .i64 dir] w (fun r w'=>∃b f,r= .returned (.tuple #[.agg #[L64 b,.int .u8 f,.int .i64 0],.int .i64 0,.int .i64 0])∧BesR x dir b f∧Below w.heap.size w w')):=Lib.hid (fun w hT=>by
  cases hn:negN x
  ·exact beside_pos hx hT d0 d3 hf hk0 hn
  ·exact beside_neg hx hT d0 d3 hf hk0 hn)
 have hQ:=Lib.hid (fun b f (h:BesR x dir b f)=>show Ex1Res x fr pt dir b f 0 0 from .inl ⟨ht,h,rfl,rfl⟩)
 obtain⟨⟨n',m',e'⟩,hd⟩:∃d,dyB x=d:=⟨_,rfl⟩
 rw[hd]at hz hb hms hm1 hm2 hm ht
 dsimp only at hz hms hm1 hm2
 have HD:=Lib.hid (fun w (hT:Tab w)=>fdyad_n (w:=w) hx hT hf hd)
 have HT:=Lib.hid (fun w v (h:RdN w v (digs BB m')) (hT:Tab w)=>Top_n (neg:=n') (E:=e') (h.num (by omega)) hT (by omega) (by omega) hb hz)
 obtain⟨t,htt⟩:∃t,topD ⟨n',m',e'⟩=t:=⟨_,rfl⟩
 rw[htt]at HT ht
 have dt:decide (t< -60)=true:=decide_eq_true ht
 clear h1 h2 h3 h4 d0 d3 hx hk hf hd hk0 hz hm hb hms hm1 hm2 ht htt
 go_enter Tryz.func37,Tryz.ntmps37
 go_wp2_with
  (first
    |(go_at_call 22;(with_reducible refine(HE.out _).mono ?_);rintro e w1 ⟨rfl,hb1⟩;have B1:=below_2.trans (hb1.mono below_2.size);have T1:=((hT.below below_2)).below hb1;have P1:=((blk_a1)).below hb1;have R1:=((blk_a2)).below hb1;obtain⟨cP0_1,cP1_1,cP2_1,cP3_1,fP0_1,fP1_1,fP2_1,fP3_1,sP_1⟩:=P1.open4;obtain⟨cR0_1,cR1_1,cR2_1,fR0_1,fR1_1,fR2_1,sR_1⟩:=R1.open3)
    |(go_at_call 23;(with_reducible refine(HD.out _ (T1.below (below_alloc _ _))).mono ?_);rintro e w2 ⟨v2,rfl,x2,hb2⟩;have hb2':=(below_a hb2);have B2:=B1.trans (hb2'.mono B1.size);have T2:=T1.below hb2';have P2:=P1.below hb2';have R2:=R1.below hb2';clear T1 P1 R1;clear cP0_1 cP1_1 cP2_1 cP3_1 fP0_1 fP1_1 fP2_1 fP3_1 sP_1;obtain⟨cP0_2,cP1_2,cP2_2,cP3_2,fP0_2,fP1_2,fP2_2,fP3_2,sP_2⟩:=P2.open4;clear cR0_1 cR1_1 cR2_1 fR0_1 fR1_1 fR2_1 sR_1;obtain⟨cR0_2,cR1_2,cR2_2,fR0_2,fR1_2,fR2_2,sR_2⟩:=R2.open3;obtain⟨ax2,kx2,rfl,-⟩:=x2.view;try simp only[List.length_nil]at x2)
    |(go_at_call 69;(with_reducible refine(HT.out _ _ (x2.below (below_alloc _ _)) (T2.below (below_alloc _ _))).mono ?_);rintro e w3 ⟨rfl,hb3⟩;have hb3':=(below_a hb3);have B3:=B2.trans (hb3'.mono B2.size);have T3:=T2.below hb3';have P3:=P2.below hb3';have R3:=R2.below hb3';have x3:=x2.below hb3';clear T2 P2 R2 x2;have D3:=blk_new.below hb3;clear cP0_2 cP1_2 cP2_2 cP3_2 fP0_2 fP1_2 fP2_2 fP3_2 sP_2;obtain⟨cP0_3,cP1_3,cP2_3,cP3_3,fP0_3,fP1_3,fP2_3,fP3_3,sP_3⟩:=P3.open4;clear cR0_2 cR1_2 cR2_2 fR0_2 fR1_2 fR2_2 sR_2;obtain⟨cR0_3,cR1_3,cR2_3,fR0_3,fR1_3,fR2_3,sR_3⟩:=R3.open3;obtain⟨cD0_3,cD1_3,cD2_3,fD0_3,fD1_3,fD2_3,sD_3⟩:=D3.open3)
    |(go_at_call 70;(with_reducible refine(HB.out _ T3).mono ?_);rintro e w4 ⟨b,f,rfl,hbes,hb4⟩;have B4:=B3.trans (hb4.mono B3.size);have T4:=T3.below hb4;have P4:=P3.below hb4;have R4:=R3.below hb4;have x4:=x3.below hb4;have D4:=D3.below hb4;clear T3 P3 R3 x3 D3;clear cP0_3 cP1_3 cP2_3 cP3_3 fP0_3 fP1_3 fP2_3 fP3_3 sP_3;obtain⟨cP0_4,cP1_4,cP2_4,cP3_4,fP0_4,fP1_4,fP2_4,fP3_4,sP_4⟩:=P4.open4;clear cR0_3 cR1_3 cR2_3 fR0_3 fR1_3 fR2_3 sR_3;obtain⟨cR0_4,cR1_4,cR2_4,fR0_4,fR1_4,fR2_4,sR_4⟩:=R4.open3;clear cD0_3 cD1_3 cD2_3 fD0_3 fD1_3 fD2_3 sD_3;obtain⟨cD0_4,cD1_4,cD2_4,fD0_4,fD1_4,fD2_4,sD_4⟩:=D4.open3)
    |fail)
 obtain⟨z0,z1,z2,-⟩:=(R4.set3 (L64 b) (.int .u8 f) (.int .i64 0)).open3
 refine bodyPost_ret (v:= .tuple #[.agg #[L64 b,.int .u8 f,.int .i64 0],.int .i64 0,.int .i64 0]) (by simp[results,Tryz.results37,go_sem,z0,z1,z2]) rfl ⟨b,f,0,0,rfl,hQ.out b f hbes,below_set3b B4 (by omega) _ _ _⟩
set_option maxHeartbeats 1000000 in
theorem eex1_rest {w:World}{x fr pt:Nat}{dir:Int}(hx:x<18446744073709551616) (h1:32≤fr) (h2:fr≤pt) (h3:64≤pt) (h4:pt≤7000) (d0:0≤dir) (d3:dir≤3) (hT:Tab w) (hf:fldN x<2047) (hk0:kindN x≠0) (ht:¬topD (dyB x)< -60):
 Calls Tryz.prog 37 #[L64 x,.agg #[.int .i64 dir,.int .i64 (fr:Int),.int .i64 (pt:Int),.pointer none]] w (fun r w'=>∃b f st tr,r= .returned (.tuple #[.agg #[L64 b,.int .u8 f,.int .i64 st],.int .i64 tr,.int .i64 0])∧Ex1Res x fr pt dir b f st tr∧Below w.heap.size w w'):=by
 have hk:=kind_fin.2 hf
 have HE:=Lib.hid (fun w=>early_n (w:=w) (k:=kindN x) hx h1 h2 h3 (by omega) d0 d3 rfl (by omega))
 have HN:=Lib.hid (fun w=>fneg_n (w:=w) hx)
 have hz:=fun h=>hk0 ((kind_zero hf).2 h)
 obtain⟨hm,hb,-,-⟩:=dyB_mid hf
 have hms:=hm.bits;have hm1:=hm.1;have hm2:=hm.2.1
 have ht2:=ht
 have hQ1:=Lib.hid (fun b f (h:710≤qv (dyB x)) (hr:resB 1 false dir=(b,f,true))=>show Ex1Res x fr pt dir b f 0 0 from .inr (.inl ⟨ht2,h,hr,rfl,rfl⟩))
 have hQ2:=Lib.hid (fun b f (h:qv (dyB x)≤-80) (hr:resB 4 true dir=(b,f,true))=>show Ex1Res x fr pt dir b f 0 0 from .inr (.inr (.inl ⟨ht2,h,hr,rfl,rfl⟩)))
 have hQ3:=Lib.hid (fun b f st tr l (g1: -80<qv (dyB x)) (g2:qv (dyB x)<710) (hl:PlanR fr pt l) (hr:RunR (IvEx1 (dyB x) (negN x)) (negN x) dir l b f st tr)=>show Ex1Res x fr pt dir b f st tr from .inr (.inr (.inr ⟨ht2,g1,g2,l,hl,hr⟩)))
 obtain⟨⟨n',m',e'⟩,hd⟩:∃d,dyB x=d:=⟨_,rfl⟩
 rw[hd]at hz hb hms hm1 hm2 hm ht hQ1 hQ2 hQ3
 dsimp only at hz hms hm1 hm2
 obtain⟨ng,hng⟩:∃b,negN x=b:=⟨_,rfl⟩
 rw[hng]at HN hQ3
 have HD:=Lib.hid (fun w (hT:Tab w)=>fdyad_n (w:=w) hx hT hf hd)
 have HT:=Lib.hid (fun w v (h:RdN w v (digs BB m')) (hT:Tab w)=>Top_n (neg:=n') (E:=e') (h.num (by omega)) hT (by omega) (by omega) hb hz)
 obtain⟨t,htt⟩:∃t,topD ⟨n',m',e'⟩=t:=⟨_,rfl⟩
 rw[htt]at HT ht
 have dt:decide (t< -60)=false:=decide_eq_false ht
 have HO1:=Lib.hid (fun w (hT:Tab w)=>show Calls Tryz.prog 51 #[.int .i64 710] w _ from Of_v (n:=710) (by decide) (by decide) hT)
 have HO2:=Lib.hid (fun w (hT:Tab w)=>show Calls Tryz.prog 51 #[.int .i64 (-80)] w _ from Of_v (n:= -80) (by decide) (by decide) hT)
 obtain⟨bo,fo,hro⟩:∃b f,resB 1 false dir=(b,f,true):=⟨overB false dir,5,by unfold resB;rw[if_neg (by omega),if_pos rfl]⟩
 obtain⟨bl,fl,hrl⟩:∃b f,resB 4 true dir=(b,f,true):=⟨_,_,by unfold resB;rw[if_neg (by omega),if_neg (by decide),if_neg (by decide),if_neg (by decide),if_pos rfl]⟩
 have HR1:=Lib.hid (fun w (hT:Tab w)=>show Calls Tryz.prog 29 #[.int .i64 1,.bool false,.int .i64 dir] w _ from Result_n (w:=w) hT hro)
 have HR2:=Lib.hid (fun w (hT:Tab w)=>show Calls Tryz.prog 29 #[.int .i64 4,.bool true,.int .i64 dir] w _ from Result_n (w:=w) hT hrl)
 replace hro:=Lib.hid hro;replace hrl:=Lib.hid hrl
 clear hx hk hf hd hk0 ht htt ht2 hng
 go_enter Tryz.func37,Tryz.ntmps37
 go_upto_region 12 with
  (first
    |(go_at_call 22;(with_reducible refine(HE.out _).mono ?_);rintro e w1 ⟨rfl,hb1⟩;have B1:=below_2.trans (hb1.mono below_2.size);have T1:=((hT.below below_2)).below hb1;have P1:=((blk_a1)).below hb1;have R1:=((blk_a2)).below hb1;obtain⟨cP0_1,cP1_1,cP2_1,cP3_1,fP0_1,fP1_1,fP2_1,fP3_1,sP_1⟩:=P1.open4;obtain⟨cR0_1,cR1_1,cR2_1,fR0_1,fR1_1,fR2_1,sR_1⟩:=R1.open3)
    |(go_at_call 23;(with_reducible refine(HD.out _ (T1.below (below_alloc _ _))).mono ?_);rintro e w2 ⟨v2,rfl,x2,hb2⟩;have hb2':=(below_a hb2);have B2:=B1.trans (hb2'.mono B1.size);have T2:=T1.below hb2';have P2:=P1.below hb2';have R2:=R1.below hb2';clear T1 P1 R1;clear cP0_1 cP1_1 cP2_1 cP3_1 fP0_1 fP1_1 fP2_1 fP3_1 sP_1;obtain⟨cP0_2,cP1_2,cP2_2,cP3_2,fP0_2,fP1_2,fP2_2,fP3_2,sP_2⟩:=P2.open4;clear cR0_1 cR1_1 cR2_1 fR0_1 fR1_1 fR2_1 sR_1;obtain⟨cR0_2,cR1_2,cR2_2,fR0_2,fR1_2,fR2_2,sR_2⟩:=R2.open3;obtain⟨ax2,kx2,rfl,-⟩:=x2.view;try simp only[List.length_nil]at x2)
    |(go_at_call 69;(with_reducible refine(HT.out _ _ (x2.below (below_alloc _ _)) (T2.below (below_alloc _ _))).mono ?_);rintro e w3 ⟨rfl,hb3⟩;have hb3':=(below_a hb3);have B3:=B2.trans (hb3'.mono B2.size);have T3:=T2.below hb3';have P3:=P2.below hb3';have R3:=R2.below hb3';have x3:=x2.below hb3';clear T2 P2 R2 x2;have D3:=blk_new.below hb3;clear cP0_2 cP1_2 cP2_2 cP3_2 fP0_2 fP1_2 fP2_2 fP3_2 sP_2;obtain⟨cP0_3,cP1_3,cP2_3,cP3_3,fP0_3,fP1_3,fP2_3,fP3_3,sP_3⟩:=P3.open4;clear cR0_2 cR1_2 cR2_2 fR0_2 fR1_2 fR2_2 sR_2;obtain⟨cR0_3,cR1_3,cR2_3,fR0_3,fR1_3,fR2_3,sR_3⟩:=R3.open3;obtain⟨cD0_3,cD1_3,cD2_3,fD0_3,fD1_3,fD2_3,sD_3⟩:=D3.open3)
    |fail)
 have D3':=D3
 obtain⟨b10,hb10⟩:∃b,w2.heap.size=b:=⟨_,rfl⟩
 rw[hb10]at D3 D3'⊢
 clear hb10 HE HD HT
 go_cut [74] (fun v w'=>∃g:Bool,v= .bool g∧((g=true∧((710:Int):Rat)≤qv ⟨n',m',e'⟩)∨(g=false∧qv ⟨n',m',e'⟩<((710:Int):Rat)))∧Below w3.heap.size w3 w')
 case first=>
  have HO':=Lib.hid (fun w' (hb:Below w3.heap.size w3 w')=>HO1.out w' (T3.below hb))
  have HM:=Lib.hid (fun w' v n M E (hb:Below w3.heap.size w3 w') (h:RdN w' v (digs BB M)) (hM:Mid 64 ⟨n,M,E⟩)=>Cmp_v (n1:=n') (e1:=e') (n2:=n) (e2:=E) ((x3.below hb).num (by omega)) (h.num (by have:=hM.bits;dsimp only at this;omega)) (T3.below hb) (by omega) (by have:=hM.bits;dsimp only at this;omega) (by omega) (by omega) (by have:=hM.1;dsimp only at this;omega) (by have:=hM.2.1;dsimp only at this;omega))
  go_region_held3 (fun w'=>w'.cell? ⟨b10,0,none⟩=some (.bool n')∧w'.cell? ⟨b10,1,none⟩=some (.slice ax2 (digs BB m').length kx2)∧w'.cell? ⟨b10,2,none⟩=some (.int .i64 e'))
   (refine cells3 ?_<;>(repeat' (first|with_reducible assumption|with_reducible exact blk_new|with_reducible exact blk_a2|with_reducible exact Below.refl _ _|with_reducible refine Blk.o1 ?_ ?_ _ _|with_reducible refine Blk.below ?_ hbx|with_reducible refine Blk.below ?_ hby|with_reducible refine Blk.next ?_|with_reducible refine Blk.dr ?_|with_reducible refine bel_dr ?_|with_reducible refine bel_s1 ?_ ?_ _ _|with_reducible refine bel_trans ?_ hbx|with_reducible refine bel_trans ?_ hby|with_reducible refine bel_next ?_|with_reducible refine Rd.s1 ?_ _ _|with_reducible refine Rd.bel1 ?_ hbx|with_reducible refine Rd.bel1 ?_ hby|with_reducible refine RdN.below ?_ hbx|with_reducible refine RdN.below ?_ hby|with_reducible refine RdN.below ?_ (below_alloc _ _)|((try simp only[size_alloc,size_drew,size_set1]);omega))))
   (first
     |(go_at_call 51;(with_reducible refine(HO'.out _ ?hbel).mono ?_);(case hbel=>(repeat' (first|with_reducible assumption|with_reducible exact blk_new|with_reducible exact blk_a2|with_reducible exact Below.refl _ _|with_reducible refine Blk.o1 ?_ ?_ _ _|with_reducible refine Blk.next ?_|with_reducible refine Blk.dr ?_|with_reducible refine bel_dr ?_|with_reducible refine bel_s1 ?_ ?_ _ _|with_reducible refine bel_next ?_|with_reducible refine Rd.s1 ?_ _ _|with_reducible refine RdN.below ?_ (below_alloc _ _)|((try simp only[size_alloc,size_drew,size_set1]);omega))));rintro e wx ⟨n5,m5,e5,vx,rfl,⟨hx1,hx2,hx3⟩,rx,hbx⟩;obtain⟨ax,kx,rfl,-⟩:=rx.view)
     |(go_at_call 50;(with_reducible refine(HM.out _ _ _ _ _ ?hbel rx hx2).mono ?_);(case hbel=>(repeat' (first|with_reducible assumption|with_reducible exact blk_new|with_reducible exact blk_a2|with_reducible exact Below.refl _ _|with_reducible refine Blk.o1 ?_ ?_ _ _|with_reducible refine Blk.below ?_ hbx|with_reducible refine Blk.next ?_|with_reducible refine Blk.dr ?_|with_reducible refine bel_dr ?_|with_reducible refine bel_s1 ?_ ?_ _ _|with_reducible refine bel_trans ?_ hbx|with_reducible refine bel_next ?_|with_reducible refine Rd.s1 ?_ _ _|with_reducible refine Rd.bel1 ?_ hbx|with_reducible refine RdN.below ?_ hbx|with_reducible refine RdN.below ?_ (below_alloc _ _)|((try simp only[size_alloc,size_drew,size_set1]);omega))));rintro e wy ⟨c,rfl,hc,hby⟩)
     |fail)
  all_goals
   go_wp2_with fail
   go_meet
   refine⟨decide (0≤c),rfl,?_,bel_trans (bel_trans (bel_dr (Below.refl _ w3)) hbx) hby⟩
   rw[hx1]at hc
   rcases hc with⟨g1,rfl⟩|⟨g1,rfl⟩|⟨g1,rfl⟩
   ·exact .inr ⟨rfl,g1⟩
   ·exact .inl ⟨rfl,by rw[g1];exact Rat.le_refl⟩
   ·exact .inl ⟨rfl,Rat.le_of_lt g1⟩
 case rest=>
  obtain⟨g,rfl,hg,hcb⟩:=hcut
  generalize hwx:wc=w4 at*
  clear hwx
  have T4:=T3.below hcb;have P4:=P3.below hcb;have R4:=R3.below hcb;have D4:=D3.below hcb;have x4:=x3.below hcb
  have B4:=B3.trans (hcb.mono B3.size)
  clear hcb T3 P3 R3 D3 D3' x3 B3 cP0_3 cP1_3 cP2_3 cP3_3 fP0_3 fP1_3 fP2_3 fP3_3 sP_3 cR0_3 cR1_3 cR2_3 fR0_3 fR1_3 fR2_3 sR_3
  obtain⟨cP0,cP1,cP2,cP3,fP0,fP1,fP2,fP3,sP⟩:=P4.open4
  rcases hg with⟨rfl,hg⟩|⟨rfl,hg⟩
  ·have hq:=Lib.hid (hQ1.out bo fo hg hro.out)
   clear hg hQ1 hQ2 hQ3 h1 h2 h3 h4 d0 d3
   go_wp2_with
    (first
      |(go_at_call 29;(with_reducible refine(HR1.out _ T4).mono ?_);rintro e w5 ⟨rfl,hb5⟩;have B5:=B4.trans (hb5.mono B4.size);have T5:=T4.below hb5;have P5:=P4.below hb5;have R5:=R4.below hb5;clear T4 P4 R4;obtain⟨cP0_5,cP1_5,cP2_5,cP3_5,fP0_5,fP1_5,fP2_5,fP3_5,sP_5⟩:=P5.open4;obtain⟨cR0_5,cR1_5,cR2_5,fR0_5,fR1_5,fR2_5,sR_5⟩:=R5.open3)
      |fail)
   obtain⟨z0,z1,z2,-⟩:=(R5.set3 (L64 bo) (.int .u8 fo) (.int .i64 0)).open3
   refine bodyPost_ret (v:= .tuple #[.agg #[L64 bo,.int .u8 fo,.int .i64 0],.int .i64 0,.int .i64 0]) (by simp[results,Tryz.results37,go_sem,z0,z1,z2]) rfl ⟨bo,fo,0,0,rfl,hq.out,below_set3b B5 (by omega) _ _ _⟩
  ·replace hg:=Lib.hid hg
   go_upto_region 15 with fail
   go_cut [89] (fun v w'=>∃g:Bool,v= .bool g∧((g=true∧qv ⟨n',m',e'⟩≤((-80:Int):Rat))∨(g=false∧((-80:Int):Rat)<qv ⟨n',m',e'⟩))∧Below w4.heap.size w4 w')
   case first=>
    obtain⟨cD0,cD1,cD2,fD0,fD1,fD2,sD⟩:=D4.open3
    have HO':=Lib.hid (fun w' (hb:Below w4.heap.size w4 w')=>HO2.out w' (T4.below hb))
    have HM:=Lib.hid (fun w' v n M E (hb:Below w4.heap.size w4 w') (h:RdN w' v (digs BB M)) (hM:Mid 64 ⟨n,M,E⟩)=>Cmp_v (n1:=n') (e1:=e') (n2:=n) (e2:=E) ((x4.below hb).num (by omega)) (h.num (by have:=hM.bits;dsimp only at this;omega)) (T4.below hb) (by omega) (by have:=hM.bits;dsimp only at this;omega) (by omega) (by omega) (by have:=hM.1;dsimp only at this;omega) (by have:=hM.2.1;dsimp only at this;omega))
    go_region_held3 (fun w'=>w'.cell? ⟨b10,0,none⟩=some (.bool n')∧w'.cell? ⟨b10,1,none⟩=some (.slice ax2 (digs BB m').length kx2)∧w'.cell? ⟨b10,2,none⟩=some (.int .i64 e'))
     (refine cells3 ?_<;>(repeat' (first|with_reducible assumption|with_reducible exact blk_new|with_reducible exact blk_a2|with_reducible exact Below.refl _ _|with_reducible refine Blk.o1 ?_ ?_ _ _|with_reducible refine Blk.below ?_ hbx|with_reducible refine Blk.below ?_ hby|with_reducible refine Blk.next ?_|with_reducible refine Blk.dr ?_|with_reducible refine bel_dr ?_|with_reducible refine bel_s1 ?_ ?_ _ _|with_reducible refine bel_trans ?_ hbx|with_reducible refine bel_trans ?_ hby|with_reducible refine bel_next ?_|with_reducible refine Rd.s1 ?_ _ _|with_reducible refine Rd.bel1 ?_ hbx|with_reducible refine Rd.bel1 ?_ hby|with_reducible refine RdN.below ?_ hbx|with_reducible refine RdN.below ?_ hby|with_reducible refine RdN.below ?_ (below_alloc _ _)|((try simp only[size_alloc,size_drew,size_set1]);omega))))
     (first
       |(go_at_call 51;(with_reducible refine(HO'.out _ ?hbel).mono ?_);(case hbel=>(repeat' (first|with_reducible assumption|with_reducible exact blk_new|with_reducible exact blk_a2|with_reducible exact Below.refl _ _|with_reducible refine Blk.o1 ?_ ?_ _ _|with_reducible refine Blk.next ?_|with_reducible refine Blk.dr ?_|with_reducible refine bel_dr ?_|with_reducible refine bel_s1 ?_ ?_ _ _|with_reducible refine bel_next ?_|with_reducible refine Rd.s1 ?_ _ _|with_reducible refine RdN.below ?_ (below_alloc _ _)|((try simp only[size_alloc,size_drew,size_set1]);omega))));rintro e wx ⟨n5,m5,e5,vx,rfl,⟨hx1,hx2,hx3⟩,rx,hbx⟩;obtain⟨ax,kx,rfl,-⟩:=rx.view)
       |(go_at_call 50;(with_reducible refine(HM.out _ _ _ _ _ ?hbel rx hx2).mono ?_);(case hbel=>(repeat' (first|with_reducible assumption|with_reducible exact blk_new|with_reducible exact blk_a2|with_reducible exact Below.refl _ _|with_reducible refine Blk.o1 ?_ ?_ _ _|with_reducible refine Blk.below ?_ hbx|with_reducible refine Blk.next ?_|with_reducible refine Blk.dr ?_|with_reducible refine bel_dr ?_|with_reducible refine bel_s1 ?_ ?_ _ _|with_reducible refine bel_trans ?_ hbx|with_reducible refine bel_next ?_|with_reducible refine Rd.s1 ?_ _ _|with_reducible refine Rd.bel1 ?_ hbx|with_reducible refine RdN.below ?_ hbx|with_reducible refine RdN.below ?_ (below_alloc _ _)|((try simp only[size_alloc,size_drew,size_set1]);omega))));rintro e wy ⟨c,rfl,hc,hby⟩)
       |fail)
    all_goals
     go_wp2_with fail
     go_meet
     refine⟨decide (c≤0),rfl,?_,bel_trans (bel_trans (bel_dr (Below.refl _ w4)) hbx) hby⟩
     rw[hx1]at hc
     rcases hc with⟨g1,rfl⟩|⟨g1,rfl⟩|⟨g1,rfl⟩
     ·exact .inl ⟨rfl,Rat.le_of_lt g1⟩
     ·exact .inl ⟨rfl,by rw[g1];exact Rat.le_refl⟩
     ·exact .inr ⟨rfl,g1⟩
   case rest=>
    obtain⟨g,rfl,hg3,hcb⟩:=hcut
    generalize hwx:wc=w5 at*
    clear hwx
    have T5:=T4.below hcb;have P5:=P4.below hcb;have R5:=R4.below hcb;have D5:=D4.below hcb;have x5:=x4.below hcb
    have B5:=B4.trans (hcb.mono B4.size)
    clear hcb T4 P4 R4 D4 x4 B4 cP0 cP1 cP2 cP3 fP0 fP1 fP2 fP3 sP
    obtain⟨cP0,cP1,cP2,cP3,fP0,fP1,fP2,fP3,sP⟩:=P5.open4
    rcases hg3 with⟨rfl,hg3⟩|⟨rfl,hg3⟩
    ·have hq:=Lib.hid (hQ2.out bl fl hg3 hrl.out)
     clear hg hg3 hQ1 hQ2 hQ3 h1 h2 h3 h4 d0 d3
     go_wp2_with
      (first
        |(go_at_call 29;(with_reducible refine(HR2.out _ T5).mono ?_);rintro e w6 ⟨rfl,hb6⟩;have B6:=B5.trans (hb6.mono B5.size);have T6:=T5.below hb6;have P6:=P5.below hb6;have R6:=R5.below hb6;clear T5 P5 R5;obtain⟨cP0_6,cP1_6,cP2_6,cP3_6,fP0_6,fP1_6,fP2_6,fP3_6,sP_6⟩:=P6.open4;obtain⟨cR0_6,cR1_6,cR2_6,fR0_6,fR1_6,fR2_6,sR_6⟩:=R6.open3)
        |fail)
     obtain⟨z0,z1,z2,-⟩:=(R6.set3 (L64 bl) (.int .u8 fl) (.int .i64 0)).open3
     refine bodyPost_ret (v:= .tuple #[.agg #[L64 bl,.int .u8 fl,.int .i64 0],.int .i64 0,.int .i64 0]) (by simp[results,Tryz.results37,go_sem,z0,z1,z2]) rfl ⟨bl,fl,0,0,rfl,hq.out,below_set3b B6 (by omega) _ _ _⟩
    ·replace hg3:=Lib.hid hg3
     go_upto_region 19 with(first
      |(go_at_call 24;(with_reducible refine(HN.out _).mono ?_);rintro e w6 ⟨rfl,rfl⟩)
      |fail)
     have N6:Blk (w6.alloc (.cells #[.bool ng] 4 (0,0))) w6.heap.size #[.bool ng]:=blk_new
     have hA:=below_alloc w6 (.cells #[.bool ng] 4 (0,0))
     have R6:=R5.below hA
     have P6:=P5.below hA
     have D6:=D5.below hA
     have T6:=T5.below hA
     have x6:=x5.below hA
     have B6:=B5.trans (hA.mono B5.size)
     clear R5 P5 T5 x5 B5 hA D5
     generalize w6.alloc (.cells #[.bool ng] 4 (0,0))=w7 at*
     generalize w6.heap.size=b12 at*
     have q710:qv ⟨n',m',e'⟩<710:=hg.out
     have q80: -80<qv ⟨n',m',e'⟩:=hg3.out
     have gd:rightB m' e'=true:=(right_of (n:=n') (by omega) (by omega) (by omega) (by grind) (by grind)).1
     have HR:=Lib.hid (run_ex1 (w:=w7) (neg:=ng) (Iv:=IvEx1 ⟨n',m',e'⟩ ng) (p0:= .pointer (some ⟨b10,0,none⟩)) (p1:= .pointer (some ⟨b12,0,none⟩)) T6 h1 h2 h3 (by omega) d0 d3 (fun w' n hn1 hn2 hb'=>ex11_n (b:=ng) (x6.below hb') (T6.below hb') hm hb gd (by grind) (by grind) hn1 (by omega) (D6.below hb') (N6.below hb')))
     have hq:=Lib.hid (fun b f st tr l hl hr=>hQ3.out b f st tr l q80 q710 hl hr)
     obtain⟨cP0,cP1,cP2,cP3,fP0,fP1,fP2,fP3,sP⟩:=P6.open4
     obtain⟨cN0,fN0,sN⟩:=N6.open1
     obtain⟨cR0,cR1,cR2,fR0,fR1,fR2,sR⟩:=R6.open3
     clear hz hm hb gd q80 q710 hg hg3
     go_wp2_with (first
      |(go_at_call 30;(with_reducible refine HR.out.mono ?_);rintro e w8 ⟨l,b,f,st,tr,rfl,hpl,hrn,hb8⟩;have R8:=R6.below hb8;have B8:=B6.trans (hb8.mono B6.size);obtain⟨gR0,gR1,gR2,gfR0,gfR1,gfR2,gsR⟩:=R8.open3)
      |fail)
     obtain⟨z0,z1,z2,-⟩:=(R8.set3 (L64 b) (.int .u8 f) (.int .i64 st)).open3
     refine bodyPost_ret (v:= .tuple #[.agg #[L64 b,.int .u8 f,.int .i64 st],.int .i64 tr,.int .i64 0]) (by simp[results,Tryz.results37,go_sem,z0,z1,z2]) rfl ⟨b,f,st,tr,rfl,hq.out b f st tr l hpl hrn,below_set3b B8 (by omega) _ _ _⟩
open Go.RowKit
def szB (n:Bool) (M:Nat) (E:Int) (dir:Int):Nat:=
 if 1023<topD ⟨n,M,E⟩then(if decide (dir=0)||upB dir n then 9218868437227405312 else 9218868437227405311)else if topD ⟨n,M,E⟩< -1075 then(if upB dir n then 1 else 0)else sizeB n M E false dir
theorem toB_sz (n:Bool) (M:Nat) (E dir:Int):(toB n M E false dir).1=signedB (szB n M E dir) n:=by
 unfold toB szB overB underB
 split
 ·rfl
 ·split<;>rfl
theorem away_mono {dir:Int}{n odd h b h' b':Bool}(hh:h=true→h'=true) (hb:h=h'→b=true→b'=true) (ha:awayB dir n odd h b=true):awayB dir n odd h' b'=true:=by
 unfold awayB at ha⊢
 generalize upB dir n=u at*
 by_cases hd:dir=0
 ·rw[if_pos hd]at ha⊢
  cases h<;>cases h'<;>cases b<;>cases b'<;>cases odd<;>simp_all
 ·rw[if_neg hd]at ha⊢
  cases h<;>cases h'<;>cases b<;>cases b'<;>cases u<;>simp_all
theorem parts_mono {M M' q q':Nat}{E E' u:Int}{h b h' b':Bool}(hp:partsP M E u=(q,h,b)) (hp':partsP M' E' u=(q',h',b')) (hxy:(M:Rat)*pw E≤(M':Rat)*pw E'):
 2*q+hb h≤2*q'+hb h'∧(2*q+hb h=2*q'+hb h'→b=true→b'=true):=by
 obtain⟨a1,a2,a3,a4⟩:=parts_val hp
 obtain⟨c1,c2,c3,c4⟩:=parts_val hp'
 have hp:=pw_pos (1-u)
 have hxy2:=Rat.mul_le_mul_of_nonneg_right hxy (Rat.le_of_lt hp)
 constructor
 ·have e:((2*q'+hb h':Nat):Rat)+1=((2*q'+hb h'+1:Nat):Rat):=by rw[Rat.natCast_add (2*q'+hb h') 1];rfl
  have h5:((2*q+hb h:Nat):Rat)<((2*q'+hb h'+1:Nat):Rat):=by rw[←e];grind
  have:=Rat.natCast_lt_natCast.1 h5
  omega
 ·intro he hb1
  cases b'
  ·have h5:=a4 hb1
   have h6:=c3 rfl
   rw[he]at h5
   exfalso;grind
  ·rfl
theorem hb_cases (h:Bool):(h=true∧hb h=1)∨(h=false∧hb h=0):=by cases h;exact .inr ⟨rfl,rfl⟩;exact .inl ⟨rfl,rfl⟩
theorem whole_mono {n:Bool}{M M':Nat}{E E' u dir:Int}(hxy:(M:Rat)*pw E≤(M':Rat)*pw E'):(wholeP n M E false dir u).1≤(wholeP n M' E' false dir u).1:=by
 obtain⟨q,h,b,hp⟩:∃q h b,partsP M E u=(q,h,b):=⟨_,_,_,rfl⟩
 obtain⟨q',h',b',hp'⟩:∃q h b,partsP M' E' u=(q,h,b):=⟨_,_,_,rfl⟩
 obtain⟨m1,m2⟩:=parts_mono hp hp' hxy
 unfold wholeP
 rw[hp,hp']
 dsimp only
 rw[Bool.or_false,Bool.or_false]
 have t1:=hb_cases h
 have t2:=hb_cases h'
 by_cases hq:q=q'
 ·subst hq
  have hh:h=true→h'=true:=fun e=>by
   rcases t1 with⟨x1,x2⟩|⟨x1,x2⟩
   ·rcases t2 with⟨y1,y2⟩|⟨y1,y2⟩
    ·exact y1
    ·exfalso;omega
   ·rw[x1]at e;cases e
  have hbb:h=h'→b=true→b'=true:=fun e=>m2 (by rw[e])
  by_cases ha:awayB dir n (decide (q%2=1)) h b=true
  ·rw[if_pos ha,if_pos (away_mono hh hbb ha)];exact Nat.le_refl _
  ·rw[if_neg ha];omega
 ·have hlt:q<q':=by
   rcases t1 with⟨x1,x2⟩|⟨x1,x2⟩<;>rcases t2 with⟨y1,y2⟩|⟨y1,y2⟩<;>omega
  split<;>split<;>omega
theorem top_in {n:Bool}{M:Nat}{E:Int}(h0:M≠0):pw (topD ⟨n,M,E⟩)≤(M:Rat)*pw E∧(M:Rat)*pw E<pw (topD ⟨n,M,E⟩+1):=by
 have a1:((2^(bitN M-1):Nat):Rat)≤(M:Rat):=Rat.natCast_le_natCast.2 (lt_bitN.1 (by have:=bitN_pos h0;omega))
 have a2:(M:Rat)<((2^bitN M:Nat):Rat):=Rat.natCast_lt_natCast.2 (bitN_lt M)
 have hp:=pw_pos E
 have b1:=Rat.mul_le_mul_of_nonneg_right a1 (Rat.le_of_lt hp)
 have b2:=Rat.mul_lt_mul_of_pos_right a2 hp
 rw[←pw_nat,←pw_add]at b1 b2
 have hb:=bitN_pos h0
 unfold topD
 dsimp only
 constructor
 ·rw[show(bitN M:Int)-1+E=((bitN M-1:Nat):Int)+E by omega];exact b1
 ·rw[show(bitN M:Int)-1+E+1=((bitN M:Nat):Int)+E by omega];exact b2
theorem top_mono {n n':Bool}{M M':Nat}{E E':Int}(h0:M≠0) (h0':M'≠0) (hxy:(M:Rat)*pw E≤(M':Rat)*pw E'):topD ⟨n,M,E⟩≤topD ⟨n',M',E'⟩:=by
 have h1:=(top_in (n:=n) (E:=E) h0).1
 exact(top_ge (n:=n') (show pw (topD ⟨n,M,E⟩)≤(M':Rat)*pw E' by grind)).1
theorem size_ge {n:Bool}{M:Nat}{E dir:Int}(h0:M≠0) (hu:unitB (topD ⟨n,M,E⟩)≠-1074):4503599627370496+(unitB (topD ⟨n,M,E⟩)+1074).toNat*4503599627370496≤sizeB n M E false dir:=by
 have:=(whole_le (n:=n) (more:=false) (dir:=dir) h0 (rfl:topD ⟨n,M,E⟩=_)).2 hu
 unfold sizeB
 omega
theorem size_le {n:Bool}{M:Nat}{E dir:Int}(h0:M≠0):sizeB n M E false dir≤9007199254740992+(unitB (topD ⟨n,M,E⟩)+1074).toNat*4503599627370496:=by
 have:=(whole_le (n:=n) (more:=false) (dir:=dir) h0 (rfl:topD ⟨n,M,E⟩=_)).1
 unfold sizeB
 omega
theorem size_mono {n:Bool}{M M':Nat}{E E' dir:Int}(h0:M≠0) (h0':M'≠0) (hxy:(M:Rat)*pw E≤(M':Rat)*pw E'):sizeB n M E false dir≤sizeB n M' E' false dir:=by
 have ht:=top_mono (n:=n) (n':=n) h0 h0' hxy
 have hu:unitB (topD ⟨n,M,E⟩)≤unitB (topD ⟨n,M',E'⟩):=by unfold unitB;omega
 by_cases he:unitB (topD ⟨n,M,E⟩)=unitB (topD ⟨n,M',E'⟩)
 ·unfold sizeB
  rw[he]
  exact Nat.add_le_add_right (whole_mono hxy) _
 ·have hl: -1074≤unitB (topD ⟨n,M,E⟩):=by unfold unitB;omega
  have h1:=size_le (n:=n) (E:=E) (dir:=dir) h0
  have h2:=size_ge (n:=n) (E:=E') (dir:=dir) h0' (by omega)
  generalize unitB (topD ⟨n,M,E⟩)=a at*
  generalize unitB (topD ⟨n,M',E'⟩)=b at*
  have h3:(a+1074).toNat+1≤(b+1074).toNat:=by omega
  have h4:=Nat.mul_le_mul_right 4503599627370496 h3
  rw[Nat.add_mul]at h4
  omega
theorem size_up {n:Bool}{M:Nat}{E dir:Int}(h0:M≠0) (hd:upB dir n=true):1≤sizeB n M E false dir:=by
 obtain⟨q,h,b,hp⟩:∃q h b,partsP M E (unitB (topD ⟨n,M,E⟩))=(q,h,b):=⟨_,_,_,rfl⟩
 obtain⟨a1,a2,a3,a4⟩:=parts_val hp
 unfold sizeB wholeP
 rw[hp]
 dsimp only
 by_cases hq:q=0
 ·have hpos:0<(M:Rat)*pw E*pw (1-unitB (topD ⟨n,M,E⟩)):=Rat.mul_pos (Rat.mul_pos (Rat.natCast_pos.2 (Nat.pos_of_ne_zero h0)) (pw_pos E)) (pw_pos _)
  have hor:(h||b)=true:=by
   cases h
   ·cases b
    ·have:=a3 rfl
     rw[this,hq]at hpos
     exact absurd hpos (by decide)
    ·rfl
   ·rfl
  have hd0:dir≠0:=fun e=>by rw[e]at hd;cases n<;>cases hd
  have ha:awayB dir n (decide (q%2=1)) h (b||false)=true:=by
   unfold awayB
   rw[if_neg hd0,hd,Bool.or_false,hor];rfl
  rw[if_pos ha]
  omega
 ·omega
theorem size_down {n:Bool}{M:Nat}{E dir:Int}(h0:M≠0) (ht:topD ⟨n,M,E⟩≤1023) (hd:dir≠0) (hu:upB dir n=false):sizeB n M E false dir≤9218868437227405311:=by
 have h1:=parts_bits (n:=n) h0 (rfl:topD ⟨n,M,E⟩=_)
 have hu2:unitB (topD ⟨n,M,E⟩)=max (topD ⟨n,M,E⟩-52) (-1074):=rfl
 have h3:bitN (partsP M E (unitB (topD ⟨n,M,E⟩))).1≤53:=by omega
 have h4:=bits53 h3
 have hw:(wholeP n M E false dir (unitB (topD ⟨n,M,E⟩))).1=(partsP M E (unitB (topD ⟨n,M,E⟩))).1:=by
  unfold wholeP awayB
  dsimp only
  rw[if_neg hd,hu,Bool.and_false,if_neg (by decide),Nat.add_zero]
 unfold sizeB
 rw[hw]
 have h5:unitB (topD ⟨n,M,E⟩)≤971:=by omega
 generalize unitB (topD ⟨n,M,E⟩)=u at*
 generalize (partsP M E u).1=q at*
 omega
theorem size_inf {n:Bool}{M:Nat}{E dir:Int}(h0:M≠0) (ht:topD ⟨n,M,E⟩≤1023):sizeB n M E false dir≤9218868437227405312:=by
 have h1:=size_le (n:=n) (E:=E) (dir:=dir) h0
 have h5:unitB (topD ⟨n,M,E⟩)≤971:=by unfold unitB;omega
 generalize unitB (topD ⟨n,M,E⟩)=u at*
 omega
theorem sz_mono {n:Bool}{M M':Nat}{E E' dir:Int}(h0:M≠0) (h0':M'≠0) (hxy:(M:Rat)*pw E≤(M':Rat)*pw E'):szB n M E dir≤szB n M' E' dir:=by
 have ht:=top_mono (n:=n) (n':=n) h0 h0' hxy
 unfold szB
 by_cases c1:1023<topD ⟨n,M,E⟩
 ·rw[if_pos c1,if_pos (show 1023<topD ⟨n,M',E'⟩by omega)];exact Nat.le_refl _
 rw[if_neg c1]
 by_cases c2:topD ⟨n,M,E⟩< -1075
 ·rw[if_pos c2]
  by_cases d1:1023<topD ⟨n,M',E'⟩
  ·rw[if_pos d1]
   split<;>split<;>omega
  rw[if_neg d1]
  by_cases d2:topD ⟨n,M',E'⟩< -1075
  ·rw[if_pos d2];exact Nat.le_refl _
  rw[if_neg d2]
  split
  ·rename_i hu
   exact size_up h0' hu
  ·exact Nat.zero_le _
 rw[if_neg c2]
 by_cases d1:1023<topD ⟨n,M',E'⟩
 ·rw[if_pos d1]
  split
  ·exact size_inf h0 (by omega)
  ·rename_i hd
   simp at hd
   exact size_down h0 (by omega) hd.1 hd.2
 rw[if_neg d1,if_neg (show¬topD ⟨n,M',E'⟩< -1075 by omega)]
 exact size_mono h0 h0' hxy
structure End (n:Bool) (M:Nat) (E dir:Int) (b:Nat) (f:Int):Prop where
 ne:M≠0
 tob:toB n M E false dir=(b,f)
 ix:f≠0
theorem flag_of {n:Bool}{M:Nat}{E dir:Int}{b:Nat}{f:Int}(o:End n M E dir b f):(f=5∧(1023<topD ⟨n,M,E⟩∨szB n M E dir=9218868437227405312))∨(f=3∧topD ⟨n,M,E⟩< -1022∧szB n M E dir≠9218868437227405312)∨(f=1∧-1022≤topD ⟨n,M,E⟩∧topD ⟨n,M,E⟩≤1023∧szB n M E dir≠9218868437227405312):=by
 obtain⟨h0,ht,hx⟩:=o
 unfold toB at ht
 unfold szB
 by_cases c1:1023<topD ⟨n,M,E⟩
 ·rw[if_pos c1]at ht
  injection ht with _ h2
  exact .inl ⟨h2.symm,.inl c1⟩
 rw[if_neg c1]at ht⊢
 by_cases c2:topD ⟨n,M,E⟩< -1075
 ·rw[if_pos c2]at ht⊢
  injection ht with _ h2
  refine .inr (.inl ⟨h2.symm,by omega,?_⟩)
  split<;>decide
 rw[if_neg c2]at ht⊢
 injection ht with _ h2
 unfold flagB at h2
 by_cases c3:sizeB n M E false dir=9218868437227405312
 ·rw[if_pos c3]at h2
  exact .inl ⟨h2.symm,.inr c3⟩
 rw[if_neg c3]at h2
 split at h2
 ·split at h2
  ·exact .inr (.inl ⟨h2.symm,by omega,c3⟩)
  ·exact .inr (.inr ⟨h2.symm,by omega,by omega,c3⟩)
 ·exact absurd h2.symm hx
theorem signedB_inj {a b:Nat}{n:Bool}(h:signedB a n=signedB b n):a=b:=by
 unfold signedB at h
 cases n
 ·exact h
 ·rw[if_pos rfl,if_pos rfl]at h;omega
theorem End.sz {n:Bool}{M:Nat}{E dir:Int}{b:Nat}{f:Int}(o:End n M E dir b f):b=signedB (szB n M E dir) n:=by
 have:=toB_sz n M E dir
 rw[o.tob]at this
 exact this
theorem end_uniq {n:Bool}{M1 M2 M3 M4 b b':Nat}{E1 E2 E3 E4 dir f f':Int}(o1:End n M1 E1 dir b f) (o2:End n M2 E2 dir b f) (o3:End n M3 E3 dir b' f') (o4:End n M4 E4 dir b' f')
 (h14:(M1:Rat)*pw E1≤(M4:Rat)*pw E4) (h32:(M3:Rat)*pw E3≤(M2:Rat)*pw E2):b=b'∧f=f':=by
 have e12:=signedB_inj (o1.sz.symm.trans o2.sz)
 have e34:=signedB_inj (o3.sz.symm.trans o4.sz)
 have m1:=sz_mono (n:=n) (dir:=dir) o1.ne o4.ne h14
 have m2:=sz_mono (n:=n) (dir:=dir) o3.ne o2.ne h32
 have es:szB n M1 E1 dir=szB n M3 E3 dir:=by omega
 have t1:=top_mono (n:=n) (n':=n) o1.ne o4.ne h14
 have t2:=top_mono (n:=n) (n':=n) o3.ne o2.ne h32
 refine⟨by rw[o1.sz,o3.sz,es],?_⟩
 have g1:=flag_of o1
 have g2:=flag_of o2
 have g3:=flag_of o3
 have g4:=flag_of o4
 rw[←e12]at g2
 rw[←es]at g3
 rw[←e34,←es]at g4
 omega
theorem isBrk_one (F:Int):isBrk 1 F=(decide (-1075≤F)&&decide (F≤1024)):=by
 have ht:topD ⟨false,1,F⟩=F:=by unfold topD;dsimp only;rw[bitN_one];omega
 unfold isBrk
 rw[ht,bitN_one]
 by_cases h:1023<F
 ·rw[if_pos h]
  by_cases h2:F=1024
  ·subst h2;decide
  ·rw[decide_eq_false h2,decide_eq_false (show¬F≤1024 by omega),Bool.false_and,Bool.and_false]
 ·rw[if_neg h,decide_eq_true (show F≤1024 by omega),Bool.and_true]
  exact decide_eq_decide.2 (by omega)
theorem brk_of {j:Nat}{u t:Int}(h1:pw t≤(j:Rat)*pw (u-1)) (h2:(j:Rat)*pw (u-1)<pw (t+1)) (ht:t≤1023) (hu:u=unitB t):∃P F,P%2=1∧isBrk P F=true∧(P:Rat)*pw F=(j:Rat)*pw (u-1):=by
 have h0:j≠0:=fun h=>by
  rw[h,show((0:Nat):Rat)=0 from rfl,Rat.zero_mul]at h1
  have:=pw_pos t
  grind
 obtain⟨m,hm⟩:=low2_eq h0
 have hv:((2*m+1:Nat):Rat)*pw (u-1+(low2 j:Nat))=(j:Rat)*pw (u-1):=by
  have hm2:(j:Rat)=((2^low2 j:Nat):Rat)*((2*m+1:Nat):Rat):=by rw[←Rat.natCast_mul,←hm]
  rw[pw_add,pw_nat,hm2]
  grind
 refine⟨2*m+1,u-1+(low2 j:Nat),by omega,?_,hv⟩
 have htop:topD ⟨false,2*m+1,u-1+(low2 j:Nat)⟩=t:=top_val (by rw[hv];exact h1) (by rw[hv];exact h2)
 unfold isBrk
 rw[htop,if_neg (by omega)]
 refine decide_eq_true ?_
 rw[hu]
 unfold unitB
 omega
theorem toB_same {neg:Bool}{M M':Nat}{E E' dir:Int}(h0:M≠0) (h0':M'≠0) (hxy:(M:Rat)*pw E≤(M':Rat)*pw E')
 (hno:∀P F,P%2=1→isBrk P F=true→(M:Rat)*pw E≤(P:Rat)*pw F→(P:Rat)*pw F≤(M':Rat)*pw E'→False):toB neg M E false dir=toB neg M' E' false dir:=by
 obtain⟨a1,a2⟩:=top_in (n:=neg) (E:=E) h0
 obtain⟨c1,c2⟩:=top_in (n:=neg) (E:=E') h0'
 have hle:=top_mono (n:=neg) (n':=neg) h0 h0' hxy
 have hone:∀F:Int,((1:Nat):Rat)*pw F=pw F:=fun F=>Rat.one_mul _
 unfold toB
 by_cases g1:1023<topD ⟨neg,M',E'⟩
 ·have g2:1023<topD ⟨neg,M,E⟩:=by
   rcases Int.lt_or_le 1023 (topD ⟨neg,M,E⟩)with h|h
   ·exact h
   ·exfalso
    refine hno 1 1024 rfl (by rw[isBrk_one];decide) ?_ ?_
    ·rw[hone]
     have:=pw_mono (show topD ⟨neg,M,E⟩+1≤1024 by omega)
     grind
    ·rw[hone]
     have:=pw_mono (show 1024≤topD ⟨neg,M',E'⟩by omega)
     grind
  rw[if_pos g1,if_pos g2]
 ·have g2:¬1023<topD ⟨neg,M,E⟩:=by omega
  rw[if_neg g1,if_neg g2]
  by_cases g3:topD ⟨neg,M',E'⟩< -1075
  ·rw[if_pos g3,if_pos (by omega)]
  ·have ht:topD ⟨neg,M,E⟩=topD ⟨neg,M',E'⟩:=by
    rcases Int.lt_or_le (topD ⟨neg,M,E⟩) (topD ⟨neg,M',E'⟩)with h|h
    ·exfalso
     refine hno 1 (topD ⟨neg,M',E'⟩) rfl (by rw[isBrk_one,Bool.and_eq_true];exact⟨decide_eq_true (by omega),decide_eq_true (by omega)⟩) ?_ ?_
     ·rw[hone]
      have:=pw_mono (show topD ⟨neg,M,E⟩+1≤topD ⟨neg,M',E'⟩by omega)
      grind
     ·rw[hone];exact c1
    ·omega
   rw[if_neg g3,if_neg (by omega)]
   unfold sizeB flagB sizeB
   rw[ht]
   rw[ht]at a1 a2
   generalize topD ⟨neg,M',E'⟩=t at*
   obtain⟨q,h,b,hp⟩:∃q h b,partsP M E (unitB t)=(q,h,b):=⟨_,_,_,rfl⟩
   obtain⟨q',h',b',hp'⟩:∃q h b,partsP M' E' (unitB t)=(q,h,b):=⟨_,_,_,rfl⟩
   obtain⟨m1,m2⟩:=parts_mono hp hp' hxy
   obtain⟨x1,x2,x3,x4⟩:=parts_val hp
   obtain⟨y1,y2,y3,y4⟩:=parts_val hp'
   have hpu:=pw_pos (1-unitB t)
   have hpv:=pw_pos (unitB t-1)
   have huv:pw (1-unitB t)*pw (unitB t-1)=1:=by rw[←pw_add,show 1-unitB t+(unitB t-1)=0 by omega];exact pw_zero
   have hbrk:∀j:Nat,(M:Rat)*pw E≤(j:Rat)*pw (unitB t-1)→(j:Rat)*pw (unitB t-1)≤(M':Rat)*pw E'→False:=fun j j1 j2=>by
    obtain⟨P,F,p1,p2,p3⟩:=brk_of (j:=j) (u:=unitB t) (t:=t) (by grind) (by grind) (by omega) rfl
    exact hno P F p1 p2 (by rw[p3];exact j1) (by rw[p3];exact j2)
   have down:∀{v:Rat}{j:Nat},(j:Rat)≤v*pw (1-unitB t)→(j:Rat)*pw (unitB t-1)≤v:=fun{v j} hj=>by
    have:=Rat.mul_le_mul_of_nonneg_right hj (Rat.le_of_lt hpv)
    rw[Rat.mul_assoc,huv,Rat.mul_one]at this
    exact this
   have up:∀{v:Rat}{j:Nat},v*pw (1-unitB t)≤(j:Rat)→v≤(j:Rat)*pw (unitB t-1):=fun{v j} hj=>by
    have:=Rat.mul_le_mul_of_nonneg_right hj (Rat.le_of_lt hpv)
    rw[Rat.mul_assoc,huv,Rat.mul_one]at this
    exact this
   have hb1:b=true:=by
    cases b
    ·exfalso
     have e:=x3 rfl
     exact hbrk (2*q+hb h) (up (by rw[e];exact Rat.le_refl)) (by have:=down (v:=(M:Rat)*pw E) (j:=2*q+hb h) (by rw[e];exact Rat.le_refl);grind)
    ·rfl
   have hjj:2*q+hb h=2*q'+hb h':=by
    rcases Nat.lt_or_ge (2*q+hb h) (2*q'+hb h')with hlt|hge
    ·exfalso
     refine hbrk (2*q'+hb h') (up ?_) (down y1)
     have:((2*q+hb h+1:Nat):Rat)≤((2*q'+hb h':Nat):Rat):=Rat.natCast_le_natCast.2 hlt
     rw[Rat.natCast_add]at this
     have e1:((1:Nat):Rat)=1:=rfl
     grind
    ·omega
   have hb2:=m2 hjj hb1
   have hqh:q=q'∧h=h':=by
    have t1:=hb_cases h
    have t2:=hb_cases h'
    rcases t1 with⟨e1,f1⟩|⟨e1,f1⟩<;>rcases t2 with⟨e2,f2⟩|⟨e2,f2⟩
    ·exact⟨by omega,by rw[e1,e2]⟩
    ·exfalso;omega
    ·exfalso;omega
    ·exact⟨by omega,by rw[e1,e2]⟩
   obtain⟨rfl,rfl⟩:=hqh
   have hw:wholeP neg M E false dir (unitB t)=wholeP neg M' E' false dir (unitB t):=by
    unfold wholeP
    rw[hp,hp',hb1,hb2]
   rw[hw]
theorem toB_inexact {n:Bool}{M b:Nat}{E dir f:Int}(ho:M%2=1) (hb:isBrk M E=false) (ht:toB n M E false dir=(b,f)):f≠0:=by
 intro hf
 subst hf
 unfold toB at ht
 split at ht
 ·injection ht with _ h;cases h
 ·rename_i g1
  split at ht
  ·injection ht with _ h;cases h
  ·injection ht with _ h
   unfold flagB at h
   split at h
   ·cases h
   ·split at h
    ·split at h<;>cases h
    ·rename_i g2
     unfold isBrk at hb
     have ht2:topD ⟨false,M,E⟩=topD ⟨n,M,E⟩:=rfl
     rw[ht2,if_neg g1]at hb
     have hE:=of_decide_eq_false hb
     have hu:unitB (topD ⟨n,M,E⟩)=max (topD ⟨n,M,E⟩-52) (-1074):=rfl
     rw[←hu]at hE
     generalize unitB (topD ⟨n,M,E⟩)=u at*
     unfold wholeP partsP at g2
     rw[if_neg (show¬u≤E by omega)]at g2
     dsimp only at g2
     rw[Bool.or_false,Bool.or_eq_true,not_or]at g2
     obtain⟨g3,g4⟩:=g2
     rw[decide_eq_true_eq]at g3 g4
     obtain⟨k,hk⟩:∃k,(u-E).toNat-1=k+0:=⟨_,rfl⟩
     have h1:1≤(u-E).toNat:=by omega
     have g4':M%2^((u-E).toNat-1)=0:=by
      rcases Nat.eq_zero_or_pos (M%2^((u-E).toNat-1))with h|h
      ·exact h
      ·exact absurd (Nat.ne_of_gt h) g4
     rcases Nat.eq_zero_or_pos ((u-E).toNat-1)with h0|h0
     ·rw[h0,Nat.pow_zero,Nat.div_one]at g3
      exact g3 ho
     ·obtain⟨j,hj⟩:∃j,(u-E).toNat-1=j+1:=⟨(u-E).toNat-2,by omega⟩
      rw[hj,Nat.pow_succ]at g4'
      have hd:2^j*2∣M:=Nat.dvd_of_mod_eq_zero g4'
      obtain⟨c,hc⟩:=hd
      rw[hc,Nat.mul_assoc,Nat.mul_comm,Nat.mul_assoc]at ho
      omega
theorem dec_found {neg:Bool}{lo hi:Dn}{dir:Int}(hr:hrB lo hi=true) (q1:bareD lo=lo) (q2:bareD hi=hi)
 (hno:∀P F,P%2=1→isBrk P F=true→qv lo≤(P:Rat)*pw F→(P:Rat)*pw F≤qv hi→False):∃b f,decG neg lo hi dir=(true,b,f):=by
 obtain⟨n1,M1,E1⟩:=lo
 obtain⟨n2,M2,E2⟩:=hi
 obtain⟨v1,v2⟩:=hr_vals hr
 obtain⟨a1,a2,a3,a4⟩:=hr_pos hr
 dsimp only at a1 a2 a3 a4
 subst a1 a2
 rw[qv_pos,qv_pos]at v2
 rw[qv_pos,qv_pos]at hno
 unfold decG decB
 rw[if_pos hr]
 dsimp only
 have b1:isBrk M1 E1=false:=by
  cases h:isBrk M1 E1
  ·rfl
  ·exact(hno M1 E1 (bareD_oddM q1 a3) h Rat.le_refl v2).elim
 have b2:isBrk M2 E2=false:=by
  cases h:isBrk M2 E2
  ·rfl
  ·exact(hno M2 E2 (bareD_oddM q2 a4) h v2 Rat.le_refl).elim
 rw[if_pos ⟨b1,b2,toB_same a3 a4 v2 hno⟩]
 exact⟨_,_,rfl⟩
theorem dec_ends {neg:Bool}{lo hi:Dn}{dir f:Int}{b:Nat}(h:decG neg lo hi dir=(true,b,f)):(0<qv lo∧qv lo≤qv hi)∧(lo.neg=false∧hi.neg=false)∧isBrk lo.m lo.e=false∧isBrk hi.m hi.e=false∧lo.m≠0∧hi.m≠0∧toB neg lo.m lo.e false dir=(b,f)∧toB neg hi.m hi.e false dir=(b,f):=by
 unfold decG at h
 split at h
 ·rename_i hr
  unfold decB at h
  split at h
  ·rename_i hc
   obtain⟨c1,c2,c3⟩:=hc
   obtain⟨a1,a2,a3,a4⟩:=hr_pos hr
   have h2:toB neg lo.m lo.e false dir=(b,f):=by injection h
   exact⟨hr_vals hr,⟨a1,a2⟩,c1,c2,a3,a4,h2,c3▸h2⟩
  ·cases h
 ·cases h
end Go.Proofs.YtffaefjkpipjnaaGreatDoor
