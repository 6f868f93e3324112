/- decide.Round by its contract. Conditions: both ends are bare, fit, and aren't nought. -/
import Derived.Test.YtffaefjkpipjnaaGreatDoorPkB20
import Derived.Test.YtffaefjkpipjnaaGreatDoorPkB21
import Derived.Test.YtffaefjkpipjnaaGreatDoorPkB01
import Derived.Test.YtffaefjkpipjnaaGreatDoorPkB13
namespace Go.Proofs.YtffaefjkpipjnaaGreatDoor
set_option linter.unusedVariables false
set_option linter.unusedSimpArgs false
set_option maxRecDepth 100000
open Go.RowKit Go.ChangeShapes Go.WideShapes
set_option maxHeartbeats 1000000 in
theorem dround_no {w:World}{v u:Value}{n1 n2 neg:Bool}{M1 M2:Nat}{E1 E2 dir:Int}(h:RdN w v (digs BB M1)) (h':RdN w u (digs BB M2)) (hT:Tab w) (q1:bareD ⟨n1,M1,E1⟩=⟨n1,M1,E1⟩) (q2:bareD ⟨n2,M2,E2⟩=⟨n2,M2,E2⟩) (f1:fitsE E1=true) (f2:fitsE E2=true) (s1:bitN M1≤400000) (s2:bitN M2≤400000)
 (hr:(decide (cmpD ⟨n1,M1,E1⟩ ⟨n2,M2,E2⟩≤0)&&decide (0<signD ⟨n1,M1,E1⟩))=false) (d0:0≤dir) (d3:dir≤3):
 Calls Tryz.prog 58 #[.agg #[.bool n1,v,.int .i64 E1,.bool n2,u,.int .i64 E2],.bool neg,.int .i64 dir] w (fun e w'=>e= .returned (.tuple #[L64 0,.int .u8 0,.bool false])∧Below w.heap.size w w'):=by
 obtain⟨av,kv,rfl,-,-,-,-⟩:=h.view
 obtain⟨au,ku,rfl,-,-,-,-⟩:=h'.view
 have HR:=Lib.hid (fun w v u (h:RdN w v (digs BB M1)) (k:RdN w u (digs BB M2)) (hT:Tab w)=>dright_n h k hT q1 q2 f1 f2 s1 s2 rfl rfl d0 d3)
 rw[hr]at HR
 clear q1 q2 f1 f2 s1 s2 hr d0 d3
 go_enter Tryz.func58,Tryz.ntmps58
 go_wp2_with
  (first
    |(go_at_call 87;(with_reducible refine(HR.out _ _ _ (h.below (below_alloc _ _)) (h'.below (below_alloc _ _)) (hT.below (below_alloc _ _))).mono ?_);rintro e w1 ⟨rfl,hb1⟩;have B1:=(below_alloc _ _).trans (hb1.mono (below_alloc _ _).size);have m1:=((h.below (below_alloc _ _))).below hb1;have g1:=((h'.below (below_alloc _ _))).below hb1;have T1:=((hT.below (below_alloc _ _))).below hb1;have P1:=((blk_new)).below hb1;obtain⟨cP0_1,cP1_1,cP2_1,cP3_1,cP4_1,cP5_1,fP0_1,fP1_1,fP2_1,fP3_1,fP4_1,fP5_1,sP_1⟩:=P1.open6)
    |fail)
 go_ret3
 exact⟨rfl,by assumption⟩
def decB (neg:Bool) (M1:Nat) (E1:Int) (M2:Nat) (E2 dir:Int):Bool×Nat×Int:=
 if isBrk M1 E1=false∧isBrk M2 E2=false∧toB neg M1 E1 false dir=toB neg M2 E2 false dir then(true,toB neg M1 E1 false dir)else(false,0,0)
set_option maxHeartbeats 2000000 in
theorem dround_n {w:World}{v u:Value}{neg:Bool}{M1 M2:Nat}{E1 E2 dir:Int}(h:RdN w v (digs BB M1)) (h':RdN w u (digs BB M2)) (hT:Tab w) (q1:bareD ⟨false,M1,E1⟩=⟨false,M1,E1⟩) (q2:bareD ⟨false,M2,E2⟩=⟨false,M2,E2⟩) (f1:fitsE E1=true) (f2:fitsE E2=true) (s1:bitN M1≤50000) (s2:bitN M2≤50000) (z1:M1≠0) (z2:M2≠0)
 (hr:(decide (cmpD ⟨false,M1,E1⟩ ⟨false,M2,E2⟩≤0)&&decide (0<signD ⟨false,M1,E1⟩))=true) (d0:0≤dir) (d3:dir≤3):
 Calls Tryz.prog 58 #[.agg #[.bool false,v,.int .i64 E1,.bool false,u,.int .i64 E2],.bool neg,.int .i64 dir] w (fun e w'=>∃(b:Nat) (f:Int) (ok:Bool),e= .returned (.tuple #[L64 b,.int .u8 f,.bool ok])∧decB neg M1 E1 M2 E2 dir=(ok,b,f)∧Below w.heap.size w w'):=by
 obtain⟨av,kv,rfl,-,-,-,-⟩:=h.view
 obtain⟨au,ku,rfl,-,-,-,-⟩:=h'.view
 have r1: -1073741824≤E1∧E1≤1073741824:=by unfold fitsE at f1;simp at f1;exact f1
 have r2: -1073741824≤E2∧E2≤1073741824:=by unfold fitsE at f2;simp at f2;exact f2
 obtain⟨r1,r1'⟩:=r1
 obtain⟨r2,r2'⟩:=r2
 have HR:=Lib.hid (fun w v u (h:RdN w v (digs BB M1)) (k:RdN w u (digs BB M2)) (hT:Tab w)=>dright_n h k hT q1 q2 f1 f2 (by omega) (by omega) rfl rfl d0 d3)
 rw[hr]at HR
 obtain⟨b1,hb1⟩:∃b,isBrk M1 E1=b:=⟨_,rfl⟩
 obtain⟨b2,hb2⟩:∃b,isBrk M2 E2=b:=⟨_,rfl⟩
 have H1:=Lib.hid (fun w v (h:RdN w v (digs BB M1)) (hT:Tab w)=>Break_n (r:=b1) (h.num (by omega)) hT (by omega) (by omega) q1 (by omega) (by rw[f1,decide_eq_false z1,hb1];rfl))
 have H2:=Lib.hid (fun w v (h:RdN w v (digs BB M2)) (hT:Tab w)=>Break_n (r:=b2) (h.num (by omega)) hT (by omega) (by omega) q2 (by omega) (by rw[f2,decide_eq_false z2,hb2];rfl))
 have S1:=Lib.hid (fun w v (h:RdN w v (digs BB M1)) (hT:Tab w)=>dsigned_n (s:=neg) h hT q1 f1 z1 (by omega))
 have S2:=Lib.hid (fun w v (h:RdN w v (digs BB M2)) (hT:Tab w)=>dsigned_n (s:=neg) h hT q2 f2 z2 (by omega))
 have p1:bareD ⟨neg,M1,E1⟩=⟨neg,M1,E1⟩:=bareD_odd' (bareD_oddM q1 z1) (by omega) (by omega)
 have p2:bareD ⟨neg,M2,E2⟩=⟨neg,M2,E2⟩:=bareD_odd' (bareD_oddM q2 z2) (by omega) (by omega)
 have T1:=Lib.hid (fun w v (h:RdN w v (digs BB M1)) (hT:Tab w)=>To_any (more:=false) (h.num (by omega)) hT (by omega) (by omega) p1 f1 d0 d3 z1 s1)
 have T2:=Lib.hid (fun w v (h:RdN w v (digs BB M2)) (hT:Tab w)=>To_any (more:=false) (h.num (by omega)) hT (by omega) (by omega) p2 f2 d0 d3 z2 s2)
 obtain⟨⟨x1,g1⟩,e1⟩:∃p,toB neg M1 E1 false dir=p:=⟨_,rfl⟩
 obtain⟨⟨x2,g2⟩,e2⟩:∃p,toB neg M2 E2 false dir=p:=⟨_,rfl⟩
 rw[e1]at T1
 rw[e2]at T2
 obtain⟨z,hz⟩:∃z,decB neg M1 E1 M2 E2 dir=z:=⟨_,rfl⟩
 have hz':=hz
 rw[hz]
 unfold decB at hz
 rw[e1,e2,hb1,hb2]at hz
 clear hz'
 clear q1 q2 f1 f2 p1 p2 r1 r1' r2 r2' s1 s2 hr d0 d3 hb1 hb2 e1 e2 z1 z2
 cases b1
 ·cases b2
  ·by_cases cx:x1=x2
   ·subst cx
    by_cases cg:g1=g2
    ·subst cg
     obtain rfl:z=(true,x1,g1):=hz.symm.trans (if_pos ⟨rfl,rfl,rfl⟩)
     clear hz
     go_enter Tryz.func58,Tryz.ntmps58
     go_wp2_with
      (first
        |(go_at_call 87;(with_reducible refine(HR.out _ _ _ (h.below (below_alloc _ _)) (h'.below (below_alloc _ _)) (hT.below (below_alloc _ _))).mono ?_);rintro e w1 ⟨rfl,hb1⟩;have B1:=(below_alloc _ _).trans (hb1.mono (below_alloc _ _).size);have m1:=((h.below (below_alloc _ _))).below hb1;have g1:=((h'.below (below_alloc _ _))).below hb1;have T1:=((hT.below (below_alloc _ _))).below hb1;have P1:=((blk_new)).below hb1;obtain⟨cP0_1,cP1_1,cP2_1,cP3_1,cP4_1,cP5_1,fP0_1,fP1_1,fP2_1,fP3_1,fP4_1,fP5_1,sP_1⟩:=P1.open6)
        |(go_at_call 88;(with_reducible refine(H1.out _ _ m1 T1).mono ?_);rintro e w2 ⟨rfl,hb2⟩;have B2:=B1.trans (hb2.mono B1.size);have m2:=m1.below hb2;have g2:=g1.below hb2;have T2:=T1.below hb2;have P2:=P1.below hb2;clear m1 g1 T1 P1;clear cP0_1 cP1_1 cP2_1 cP3_1 cP4_1 cP5_1 fP0_1 fP1_1 fP2_1 fP3_1 fP4_1 fP5_1 sP_1;obtain⟨cP0_2,cP1_2,cP2_2,cP3_2,cP4_2,cP5_2,fP0_2,fP1_2,fP2_2,fP3_2,fP4_2,fP5_2,sP_2⟩:=P2.open6)
        |(go_at_call 88;(with_reducible refine(H2.out _ _ g2 T2).mono ?_);rintro e w3 ⟨rfl,hb3⟩;have B3:=B2.trans (hb3.mono B2.size);have m3:=m2.below hb3;have g3:=g2.below hb3;have T3:=T2.below hb3;have P3:=P2.below hb3;clear m2 g2 T2 P2;clear cP0_2 cP1_2 cP2_2 cP3_2 cP4_2 cP5_2 fP0_2 fP1_2 fP2_2 fP3_2 fP4_2 fP5_2 sP_2;obtain⟨cP0_3,cP1_3,cP2_3,cP3_3,cP4_3,cP5_3,fP0_3,fP1_3,fP2_3,fP3_3,fP4_3,fP5_3,sP_3⟩:=P3.open6)
        |(go_at_call 89;(with_reducible refine(S1.out _ _ m3 T3).mono ?_);rintro e w4 ⟨vx4,rfl,x4,hb4⟩;have B4:=B3.trans (hb4.mono B3.size);have m4:=m3.below hb4;have g4:=g3.below hb4;have T4:=T3.below hb4;have P4:=P3.below hb4;clear m3 g3 T3 P3;clear cP0_3 cP1_3 cP2_3 cP3_3 cP4_3 cP5_3 fP0_3 fP1_3 fP2_3 fP3_3 fP4_3 fP5_3 sP_3;obtain⟨cP0_4,cP1_4,cP2_4,cP3_4,cP4_4,cP5_4,fP0_4,fP1_4,fP2_4,fP3_4,fP4_4,fP5_4,sP_4⟩:=P4.open6;obtain⟨ax4,kx4,rfl,-⟩:=x4.view;try simp only[List.length_nil]at x4)
        |(go_at_call 55;(with_reducible refine(T1.out _ _ x4 T4).mono ?_);rintro e w5 ⟨rfl,hb5⟩;have B5:=B4.trans (hb5.mono B4.size);have m5:=m4.below hb5;have g5:=g4.below hb5;have T5:=T4.below hb5;have P5:=P4.below hb5;have x5:=x4.below hb5;clear m4 g4 T4 P4 x4;clear cP0_4 cP1_4 cP2_4 cP3_4 cP4_4 cP5_4 fP0_4 fP1_4 fP2_4 fP3_4 fP4_4 fP5_4 sP_4;obtain⟨cP0_5,cP1_5,cP2_5,cP3_5,cP4_5,cP5_5,fP0_5,fP1_5,fP2_5,fP3_5,fP4_5,fP5_5,sP_5⟩:=P5.open6)
        |(go_at_call 89;(with_reducible refine(S2.out _ _ g5 T5).mono ?_);rintro e w6 ⟨vy6,rfl,y6,hb6⟩;have B6:=B5.trans (hb6.mono B5.size);have m6:=m5.below hb6;have g6:=g5.below hb6;have T6:=T5.below hb6;have P6:=P5.below hb6;have x6:=x5.below hb6;clear m5 g5 T5 P5 x5;clear cP0_5 cP1_5 cP2_5 cP3_5 cP4_5 cP5_5 fP0_5 fP1_5 fP2_5 fP3_5 fP4_5 fP5_5 sP_5;obtain⟨cP0_6,cP1_6,cP2_6,cP3_6,cP4_6,cP5_6,fP0_6,fP1_6,fP2_6,fP3_6,fP4_6,fP5_6,sP_6⟩:=P6.open6;obtain⟨ay6,ky6,rfl,-⟩:=y6.view;try simp only[List.length_nil]at y6)
        |(go_at_call 55;(with_reducible refine(T2.out _ _ y6 T6).mono ?_);rintro e w7 ⟨rfl,hb7⟩;have B7:=B6.trans (hb7.mono B6.size);have m7:=m6.below hb7;have g7:=g6.below hb7;have T7:=T6.below hb7;have P7:=P6.below hb7;have x7:=x6.below hb7;have y7:=y6.below hb7;clear m6 g6 T6 P6 x6 y6;clear cP0_6 cP1_6 cP2_6 cP3_6 cP4_6 cP5_6 fP0_6 fP1_6 fP2_6 fP3_6 fP4_6 fP5_6 sP_6;obtain⟨cP0_7,cP1_7,cP2_7,cP3_7,cP4_7,cP5_7,fP0_7,fP1_7,fP2_7,fP3_7,fP4_7,fP5_7,sP_7⟩:=P7.open6)
        |fail)
     go_ret3
     exact⟨x1,g1,true,rfl,rfl,by assumption⟩
    ·have dg:(g1==g2)=false:=beq_false_of_ne cg
     obtain rfl:z=(false,0,0):=hz.symm.trans (if_neg (fun h=>cg (congrArg Prod.snd h.2.2)))
     clear hz
     go_enter Tryz.func58,Tryz.ntmps58
     go_wp2_with
      (first
        |(go_at_call 87;(with_reducible refine(HR.out _ _ _ (h.below (below_alloc _ _)) (h'.below (below_alloc _ _)) (hT.below (below_alloc _ _))).mono ?_);rintro e w1 ⟨rfl,hb1⟩;have B1:=(below_alloc _ _).trans (hb1.mono (below_alloc _ _).size);have m1:=((h.below (below_alloc _ _))).below hb1;have g1:=((h'.below (below_alloc _ _))).below hb1;have T1:=((hT.below (below_alloc _ _))).below hb1;have P1:=((blk_new)).below hb1;obtain⟨cP0_1,cP1_1,cP2_1,cP3_1,cP4_1,cP5_1,fP0_1,fP1_1,fP2_1,fP3_1,fP4_1,fP5_1,sP_1⟩:=P1.open6)
        |(go_at_call 88;(with_reducible refine(H1.out _ _ m1 T1).mono ?_);rintro e w2 ⟨rfl,hb2⟩;have B2:=B1.trans (hb2.mono B1.size);have m2:=m1.below hb2;have g2:=g1.below hb2;have T2:=T1.below hb2;have P2:=P1.below hb2;clear m1 g1 T1 P1;clear cP0_1 cP1_1 cP2_1 cP3_1 cP4_1 cP5_1 fP0_1 fP1_1 fP2_1 fP3_1 fP4_1 fP5_1 sP_1;obtain⟨cP0_2,cP1_2,cP2_2,cP3_2,cP4_2,cP5_2,fP0_2,fP1_2,fP2_2,fP3_2,fP4_2,fP5_2,sP_2⟩:=P2.open6)
        |(go_at_call 88;(with_reducible refine(H2.out _ _ g2 T2).mono ?_);rintro e w3 ⟨rfl,hb3⟩;have B3:=B2.trans (hb3.mono B2.size);have m3:=m2.below hb3;have g3:=g2.below hb3;have T3:=T2.below hb3;have P3:=P2.below hb3;clear m2 g2 T2 P2;clear cP0_2 cP1_2 cP2_2 cP3_2 cP4_2 cP5_2 fP0_2 fP1_2 fP2_2 fP3_2 fP4_2 fP5_2 sP_2;obtain⟨cP0_3,cP1_3,cP2_3,cP3_3,cP4_3,cP5_3,fP0_3,fP1_3,fP2_3,fP3_3,fP4_3,fP5_3,sP_3⟩:=P3.open6)
        |(go_at_call 89;(with_reducible refine(S1.out _ _ m3 T3).mono ?_);rintro e w4 ⟨vx4,rfl,x4,hb4⟩;have B4:=B3.trans (hb4.mono B3.size);have m4:=m3.below hb4;have g4:=g3.below hb4;have T4:=T3.below hb4;have P4:=P3.below hb4;clear m3 g3 T3 P3;clear cP0_3 cP1_3 cP2_3 cP3_3 cP4_3 cP5_3 fP0_3 fP1_3 fP2_3 fP3_3 fP4_3 fP5_3 sP_3;obtain⟨cP0_4,cP1_4,cP2_4,cP3_4,cP4_4,cP5_4,fP0_4,fP1_4,fP2_4,fP3_4,fP4_4,fP5_4,sP_4⟩:=P4.open6;obtain⟨ax4,kx4,rfl,-⟩:=x4.view;try simp only[List.length_nil]at x4)
        |(go_at_call 55;(with_reducible refine(T1.out _ _ x4 T4).mono ?_);rintro e w5 ⟨rfl,hb5⟩;have B5:=B4.trans (hb5.mono B4.size);have m5:=m4.below hb5;have g5:=g4.below hb5;have T5:=T4.below hb5;have P5:=P4.below hb5;have x5:=x4.below hb5;clear m4 g4 T4 P4 x4;clear cP0_4 cP1_4 cP2_4 cP3_4 cP4_4 cP5_4 fP0_4 fP1_4 fP2_4 fP3_4 fP4_4 fP5_4 sP_4;obtain⟨cP0_5,cP1_5,cP2_5,cP3_5,cP4_5,cP5_5,fP0_5,fP1_5,fP2_5,fP3_5,fP4_5,fP5_5,sP_5⟩:=P5.open6)
        |(go_at_call 89;(with_reducible refine(S2.out _ _ g5 T5).mono ?_);rintro e w6 ⟨vy6,rfl,y6,hb6⟩;have B6:=B5.trans (hb6.mono B5.size);have m6:=m5.below hb6;have g6:=g5.below hb6;have T6:=T5.below hb6;have P6:=P5.below hb6;have x6:=x5.below hb6;clear m5 g5 T5 P5 x5;clear cP0_5 cP1_5 cP2_5 cP3_5 cP4_5 cP5_5 fP0_5 fP1_5 fP2_5 fP3_5 fP4_5 fP5_5 sP_5;obtain⟨cP0_6,cP1_6,cP2_6,cP3_6,cP4_6,cP5_6,fP0_6,fP1_6,fP2_6,fP3_6,fP4_6,fP5_6,sP_6⟩:=P6.open6;obtain⟨ay6,ky6,rfl,-⟩:=y6.view;try simp only[List.length_nil]at y6)
        |(go_at_call 55;(with_reducible refine(T2.out _ _ y6 T6).mono ?_);rintro e w7 ⟨rfl,hb7⟩;have B7:=B6.trans (hb7.mono B6.size);have m7:=m6.below hb7;have g7:=g6.below hb7;have T7:=T6.below hb7;have P7:=P6.below hb7;have x7:=x6.below hb7;have y7:=y6.below hb7;clear m6 g6 T6 P6 x6 y6;clear cP0_6 cP1_6 cP2_6 cP3_6 cP4_6 cP5_6 fP0_6 fP1_6 fP2_6 fP3_6 fP4_6 fP5_6 sP_6;obtain⟨cP0_7,cP1_7,cP2_7,cP3_7,cP4_7,cP5_7,fP0_7,fP1_7,fP2_7,fP3_7,fP4_7,fP5_7,sP_7⟩:=P7.open6)
        |fail)
     go_ret3
     exact⟨0,0,false,rfl,rfl,by assumption⟩
   ·have dx:((x1:Int)==(x2:Int))=false:=beq_false_of_ne (by omega)
    have dx':(x1==x2)=false:=beq_false_of_ne cx
    obtain rfl:z=(false,0,0):=hz.symm.trans (if_neg (fun h=>cx (congrArg Prod.fst h.2.2)))
    clear hz
    go_enter Tryz.func58,Tryz.ntmps58
    go_wp2_with
     (first
       |(go_at_call 87;(with_reducible refine(HR.out _ _ _ (h.below (below_alloc _ _)) (h'.below (below_alloc _ _)) (hT.below (below_alloc _ _))).mono ?_);rintro e w1 ⟨rfl,hb1⟩;have B1:=(below_alloc _ _).trans (hb1.mono (below_alloc _ _).size);have m1:=((h.below (below_alloc _ _))).below hb1;have g1:=((h'.below (below_alloc _ _))).below hb1;have T1:=((hT.below (below_alloc _ _))).below hb1;have P1:=((blk_new)).below hb1;obtain⟨cP0_1,cP1_1,cP2_1,cP3_1,cP4_1,cP5_1,fP0_1,fP1_1,fP2_1,fP3_1,fP4_1,fP5_1,sP_1⟩:=P1.open6)
       |(go_at_call 88;(with_reducible refine(H1.out _ _ m1 T1).mono ?_);rintro e w2 ⟨rfl,hb2⟩;have B2:=B1.trans (hb2.mono B1.size);have m2:=m1.below hb2;have g2:=g1.below hb2;have T2:=T1.below hb2;have P2:=P1.below hb2;clear m1 g1 T1 P1;clear cP0_1 cP1_1 cP2_1 cP3_1 cP4_1 cP5_1 fP0_1 fP1_1 fP2_1 fP3_1 fP4_1 fP5_1 sP_1;obtain⟨cP0_2,cP1_2,cP2_2,cP3_2,cP4_2,cP5_2,fP0_2,fP1_2,fP2_2,fP3_2,fP4_2,fP5_2,sP_2⟩:=P2.open6)
       |(go_at_call 88;(with_reducible refine(H2.out _ _ g2 T2).mono ?_);rintro e w3 ⟨rfl,hb3⟩;have B3:=B2.trans (hb3.mono B2.size);have m3:=m2.below hb3;have g3:=g2.below hb3;have T3:=T2.below hb3;have P3:=P2.below hb3;clear m2 g2 T2 P2;clear cP0_2 cP1_2 cP2_2 cP3_2 cP4_2 cP5_2 fP0_2 fP1_2 fP2_2 fP3_2 fP4_2 fP5_2 sP_2;obtain⟨cP0_3,cP1_3,cP2_3,cP3_3,cP4_3,cP5_3,fP0_3,fP1_3,fP2_3,fP3_3,fP4_3,fP5_3,sP_3⟩:=P3.open6)
       |(go_at_call 89;(with_reducible refine(S1.out _ _ m3 T3).mono ?_);rintro e w4 ⟨vx4,rfl,x4,hb4⟩;have B4:=B3.trans (hb4.mono B3.size);have m4:=m3.below hb4;have g4:=g3.below hb4;have T4:=T3.below hb4;have P4:=P3.below hb4;clear m3 g3 T3 P3;clear cP0_3 cP1_3 cP2_3 cP3_3 cP4_3 cP5_3 fP0_3 fP1_3 fP2_3 fP3_3 fP4_3 fP5_3 sP_3;obtain⟨cP0_4,cP1_4,cP2_4,cP3_4,cP4_4,cP5_4,fP0_4,fP1_4,fP2_4,fP3_4,fP4_4,fP5_4,sP_4⟩:=P4.open6;obtain⟨ax4,kx4,rfl,-⟩:=x4.view;try simp only[List.length_nil]at x4)
       |(go_at_call 55;(with_reducible refine(T1.out _ _ x4 T4).mono ?_);rintro e w5 ⟨rfl,hb5⟩;have B5:=B4.trans (hb5.mono B4.size);have m5:=m4.below hb5;have g5:=g4.below hb5;have T5:=T4.below hb5;have P5:=P4.below hb5;have x5:=x4.below hb5;clear m4 g4 T4 P4 x4;clear cP0_4 cP1_4 cP2_4 cP3_4 cP4_4 cP5_4 fP0_4 fP1_4 fP2_4 fP3_4 fP4_4 fP5_4 sP_4;obtain⟨cP0_5,cP1_5,cP2_5,cP3_5,cP4_5,cP5_5,fP0_5,fP1_5,fP2_5,fP3_5,fP4_5,fP5_5,sP_5⟩:=P5.open6)
       |(go_at_call 89;(with_reducible refine(S2.out _ _ g5 T5).mono ?_);rintro e w6 ⟨vy6,rfl,y6,hb6⟩;have B6:=B5.trans (hb6.mono B5.size);have m6:=m5.below hb6;have g6:=g5.below hb6;have T6:=T5.below hb6;have P6:=P5.below hb6;have x6:=x5.below hb6;clear m5 g5 T5 P5 x5;clear cP0_5 cP1_5 cP2_5 cP3_5 cP4_5 cP5_5 fP0_5 fP1_5 fP2_5 fP3_5 fP4_5 fP5_5 sP_5;obtain⟨cP0_6,cP1_6,cP2_6,cP3_6,cP4_6,cP5_6,fP0_6,fP1_6,fP2_6,fP3_6,fP4_6,fP5_6,sP_6⟩:=P6.open6;obtain⟨ay6,ky6,rfl,-⟩:=y6.view;try simp only[List.length_nil]at y6)
       |(go_at_call 55;(with_reducible refine(T2.out _ _ y6 T6).mono ?_);rintro e w7 ⟨rfl,hb7⟩;have B7:=B6.trans (hb7.mono B6.size);have m7:=m6.below hb7;have g7:=g6.below hb7;have T7:=T6.below hb7;have P7:=P6.below hb7;have x7:=x6.below hb7;have y7:=y6.below hb7;clear m6 g6 T6 P6 x6 y6;clear cP0_6 cP1_6 cP2_6 cP3_6 cP4_6 cP5_6 fP0_6 fP1_6 fP2_6 fP3_6 fP4_6 fP5_6 sP_6;obtain⟨cP0_7,cP1_7,cP2_7,cP3_7,cP4_7,cP5_7,fP0_7,fP1_7,fP2_7,fP3_7,fP4_7,fP5_7,sP_7⟩:=P7.open6)
       |fail)
    go_ret3
    exact⟨0,0,false,rfl,rfl,by assumption⟩
  ·obtain rfl:z=(false,0,0):=hz.symm.trans (if_neg (fun h=>by cases h.2.1))
   clear hz
   go_enter Tryz.func58,Tryz.ntmps58
   go_wp2_with
    (first
      |(go_at_call 87;(with_reducible refine(HR.out _ _ _ (h.below (below_alloc _ _)) (h'.below (below_alloc _ _)) (hT.below (below_alloc _ _))).mono ?_);rintro e w1 ⟨rfl,hb1⟩;have B1:=(below_alloc _ _).trans (hb1.mono (below_alloc _ _).size);have m1:=((h.below (below_alloc _ _))).below hb1;have g1:=((h'.below (below_alloc _ _))).below hb1;have T1:=((hT.below (below_alloc _ _))).below hb1;have P1:=((blk_new)).below hb1;obtain⟨cP0_1,cP1_1,cP2_1,cP3_1,cP4_1,cP5_1,fP0_1,fP1_1,fP2_1,fP3_1,fP4_1,fP5_1,sP_1⟩:=P1.open6)
      |(go_at_call 88;(with_reducible refine(H1.out _ _ m1 T1).mono ?_);rintro e w2 ⟨rfl,hb2⟩;have B2:=B1.trans (hb2.mono B1.size);have m2:=m1.below hb2;have g2:=g1.below hb2;have T2:=T1.below hb2;have P2:=P1.below hb2;clear m1 g1 T1 P1;clear cP0_1 cP1_1 cP2_1 cP3_1 cP4_1 cP5_1 fP0_1 fP1_1 fP2_1 fP3_1 fP4_1 fP5_1 sP_1;obtain⟨cP0_2,cP1_2,cP2_2,cP3_2,cP4_2,cP5_2,fP0_2,fP1_2,fP2_2,fP3_2,fP4_2,fP5_2,sP_2⟩:=P2.open6)
      |(go_at_call 88;(with_reducible refine(H2.out _ _ g2 T2).mono ?_);rintro e w3 ⟨rfl,hb3⟩;have B3:=B2.trans (hb3.mono B2.size);have m3:=m2.below hb3;have g3:=g2.below hb3;have T3:=T2.below hb3;have P3:=P2.below hb3;clear m2 g2 T2 P2;clear cP0_2 cP1_2 cP2_2 cP3_2 cP4_2 cP5_2 fP0_2 fP1_2 fP2_2 fP3_2 fP4_2 fP5_2 sP_2;obtain⟨cP0_3,cP1_3,cP2_3,cP3_3,cP4_3,cP5_3,fP0_3,fP1_3,fP2_3,fP3_3,fP4_3,fP5_3,sP_3⟩:=P3.open6)
      |fail)
   go_ret3
   exact⟨0,0,false,rfl,rfl,by assumption⟩
 ·obtain rfl:z=(false,0,0):=hz.symm.trans (if_neg (fun h=>by cases h.1))
  clear hz
  go_enter Tryz.func58,Tryz.ntmps58
  go_wp2_with
   (first
     |(go_at_call 87;(with_reducible refine(HR.out _ _ _ (h.below (below_alloc _ _)) (h'.below (below_alloc _ _)) (hT.below (below_alloc _ _))).mono ?_);rintro e w1 ⟨rfl,hb1⟩;have B1:=(below_alloc _ _).trans (hb1.mono (below_alloc _ _).size);have m1:=((h.below (below_alloc _ _))).below hb1;have g1:=((h'.below (below_alloc _ _))).below hb1;have T1:=((hT.below (below_alloc _ _))).below hb1;have P1:=((blk_new)).below hb1;obtain⟨cP0_1,cP1_1,cP2_1,cP3_1,cP4_1,cP5_1,fP0_1,fP1_1,fP2_1,fP3_1,fP4_1,fP5_1,sP_1⟩:=P1.open6)
     |(go_at_call 88;(with_reducible refine(H1.out _ _ m1 T1).mono ?_);rintro e w2 ⟨rfl,hb2⟩;have B2:=B1.trans (hb2.mono B1.size);have m2:=m1.below hb2;have g2:=g1.below hb2;have T2:=T1.below hb2;have P2:=P1.below hb2;clear m1 g1 T1 P1;clear cP0_1 cP1_1 cP2_1 cP3_1 cP4_1 cP5_1 fP0_1 fP1_1 fP2_1 fP3_1 fP4_1 fP5_1 sP_1;obtain⟨cP0_2,cP1_2,cP2_2,cP3_2,cP4_2,cP5_2,fP0_2,fP1_2,fP2_2,fP3_2,fP4_2,fP5_2,sP_2⟩:=P2.open6)
     |fail)
  go_ret3
  exact⟨0,0,false,rfl,rfl,by assumption⟩
set_option maxHeartbeats 1000000 in
theorem dloose_no {w:World}{v u:Value}{n1 n2 neg:Bool}{M1 M2:Nat}{E1 E2 dir:Int}(h:RdN w v (digs BB M1)) (h':RdN w u (digs BB M2)) (hT:Tab w) (q1:bareD ⟨n1,M1,E1⟩=⟨n1,M1,E1⟩) (q2:bareD ⟨n2,M2,E2⟩=⟨n2,M2,E2⟩) (f1:fitsE E1=true) (f2:fitsE E2=true) (s1:bitN M1≤400000) (s2:bitN M2≤400000)
 (hr:(decide (cmpD ⟨n1,M1,E1⟩ ⟨n2,M2,E2⟩≤0)&&decide (0<signD ⟨n1,M1,E1⟩))=false) (d0:0≤dir) (d3:dir≤3):
 Calls Tryz.prog 59 #[.agg #[.bool n1,v,.int .i64 E1,.bool n2,u,.int .i64 E2],.bool neg,.int .i64 dir] w (fun e w'=>e= .returned (.tuple #[L64 0,.int .u8 0,.bool false])∧Below w.heap.size w w'):=by
 obtain⟨av,kv,rfl,-,-,-,-⟩:=h.view
 obtain⟨au,ku,rfl,-,-,-,-⟩:=h'.view
 have HR:=Lib.hid (fun w v u (h:RdN w v (digs BB M1)) (k:RdN w u (digs BB M2)) (hT:Tab w)=>dright_n h k hT q1 q2 f1 f2 s1 s2 rfl rfl d0 d3)
 rw[hr]at HR
 clear q1 q2 f1 f2 s1 s2 hr d0 d3
 go_enter Tryz.func59,Tryz.ntmps59
 go_wp2_with
  (first
    |(go_at_call 87;(with_reducible refine(HR.out _ _ _ (h.below (below_alloc _ _)) (h'.below (below_alloc _ _)) (hT.below (below_alloc _ _))).mono ?_);rintro e w1 ⟨rfl,hb1⟩;have B1:=(below_alloc _ _).trans (hb1.mono (below_alloc _ _).size);have m1:=((h.below (below_alloc _ _))).below hb1;have g1:=((h'.below (below_alloc _ _))).below hb1;have T1:=((hT.below (below_alloc _ _))).below hb1;have P1:=((blk_new)).below hb1;obtain⟨cP0_1,cP1_1,cP2_1,cP3_1,cP4_1,cP5_1,fP0_1,fP1_1,fP2_1,fP3_1,fP4_1,fP5_1,sP_1⟩:=P1.open6)
    |fail)
 go_ret3
 exact⟨rfl,by assumption⟩
set_option maxHeartbeats 1000000 in
theorem dloose_n {w:World}{v u:Value}{neg:Bool}{M1 M2:Nat}{E1 E2 dir:Int}(h:RdN w v (digs BB M1)) (h':RdN w u (digs BB M2)) (hT:Tab w) (q1:bareD ⟨false,M1,E1⟩=⟨false,M1,E1⟩) (q2:bareD ⟨false,M2,E2⟩=⟨false,M2,E2⟩) (f1:fitsE E1=true) (f2:fitsE E2=true) (s1:bitN M1≤50000) (s2:bitN M2≤50000) (z1:M1≠0) (z2:M2≠0)
 (hr:(decide (cmpD ⟨false,M1,E1⟩ ⟨false,M2,E2⟩≤0)&&decide (0<signD ⟨false,M1,E1⟩))=true) (d0:0≤dir) (d3:dir≤3):
 Calls Tryz.prog 59 #[.agg #[.bool false,v,.int .i64 E1,.bool false,u,.int .i64 E2],.bool neg,.int .i64 dir] w (fun e w'=>∃(b:Nat) (f:Int),e= .returned (.tuple #[L64 b,.int .u8 f,.bool true])∧(b,f)=(if downB neg dir then toB neg M2 E2 true dir else toB neg M1 E1 true dir)∧Below w.heap.size w w'):=by
 obtain⟨av,kv,rfl,-,-,-,-⟩:=h.view
 obtain⟨au,ku,rfl,-,-,-,-⟩:=h'.view
 have r1: -1073741824≤E1∧E1≤1073741824:=by unfold fitsE at f1;simp at f1;exact f1
 have r2: -1073741824≤E2∧E2≤1073741824:=by unfold fitsE at f2;simp at f2;exact f2
 obtain⟨r1,r1'⟩:=r1
 obtain⟨r2,r2'⟩:=r2
 have HR:=Lib.hid (fun w v u (h:RdN w v (digs BB M1)) (k:RdN w u (digs BB M2)) (hT:Tab w)=>dright_n h k hT q1 q2 f1 f2 (by omega) (by omega) rfl rfl d0 d3)
 rw[hr]at HR
 have S1:=Lib.hid (fun w v (h:RdN w v (digs BB M1)) (hT:Tab w)=>dsigned_n (s:=neg) h hT q1 f1 z1 (by omega))
 have S2:=Lib.hid (fun w v (h:RdN w v (digs BB M2)) (hT:Tab w)=>dsigned_n (s:=neg) h hT q2 f2 z2 (by omega))
 have p1:bareD ⟨neg,M1,E1⟩=⟨neg,M1,E1⟩:=bareD_odd' (bareD_oddM q1 z1) (by omega) (by omega)
 have p2:bareD ⟨neg,M2,E2⟩=⟨neg,M2,E2⟩:=bareD_odd' (bareD_oddM q2 z2) (by omega) (by omega)
 have T1:=Lib.hid (fun w v (h:RdN w v (digs BB M1)) (hT:Tab w)=>To_any (more:=true) (h.num (by omega)) hT (by omega) (by omega) p1 f1 d0 d3 z1 s1)
 have T2:=Lib.hid (fun w v (h:RdN w v (digs BB M2)) (hT:Tab w)=>To_any (more:=true) (h.num (by omega)) hT (by omega) (by omega) p2 f2 d0 d3 z2 s2)
 have HD:=Lib.hid (fun w=>ddown_n (w:=w) (neg:=neg) d0 d3)
 obtain⟨⟨x1,g1⟩,e1⟩:∃p,toB neg M1 E1 true dir=p:=⟨_,rfl⟩
 obtain⟨⟨x2,g2⟩,e2⟩:∃p,toB neg M2 E2 true dir=p:=⟨_,rfl⟩
 obtain⟨dn,hdn⟩:∃p,downB neg dir=p:=⟨_,rfl⟩
 rw[e1]at T1
 rw[e2]at T2
 rw[hdn]at HD
 rw[e1,e2,hdn]
 clear q1 q2 f1 f2 p1 p2 r1 r1' r2 r2' s1 s2 hr d0 d3 e1 e2 z1 z2 hdn
 cases dn
 ·go_enter Tryz.func59,Tryz.ntmps59
  go_wp2_with
   (first
     |(go_at_call 87;(with_reducible refine(HR.out _ _ _ (h.below (below_alloc _ _)) (h'.below (below_alloc _ _)) (hT.below (below_alloc _ _))).mono ?_);rintro e w1 ⟨rfl,hb1⟩;have B1:=(below_alloc _ _).trans (hb1.mono (below_alloc _ _).size);have m1:=((h.below (below_alloc _ _))).below hb1;have g1:=((h'.below (below_alloc _ _))).below hb1;have T1:=((hT.below (below_alloc _ _))).below hb1;have P1:=((blk_new)).below hb1;obtain⟨cP0_1,cP1_1,cP2_1,cP3_1,cP4_1,cP5_1,fP0_1,fP1_1,fP2_1,fP3_1,fP4_1,fP5_1,sP_1⟩:=P1.open6)
     |(go_at_call 90;(with_reducible refine(HD.out _).mono ?_);rintro e w2 ⟨rfl,rfl⟩)
     |(go_at_call 89;(with_reducible refine(S1.out _ _ (m1.below (below_alloc _ _)) (T1.below (below_alloc _ _))).mono ?_);rintro e w3 ⟨vx3,rfl,x3,hb3⟩;have hb3':=(below_a hb3);have B3:=B1.trans (hb3'.mono B1.size);have m3:=m1.below hb3';have g3:=g1.below hb3';have T3:=T1.below hb3';have P3:=P1.below hb3';clear m1 g1 T1 P1;have Q3:=blk_new.below hb3;obtain⟨cP0_3,cP1_3,cP2_3,cP3_3,cP4_3,cP5_3,fP0_3,fP1_3,fP2_3,fP3_3,fP4_3,fP5_3,sP_3⟩:=P3.open6;obtain⟨cQ0_3,cQ1_3,cQ2_3,fQ0_3,fQ1_3,fQ2_3,sQ_3⟩:=Q3.open3;obtain⟨ax3,kx3,rfl,-⟩:=x3.view;try simp only[List.length_nil]at x3)
     |(go_at_call 55;(with_reducible refine(T1.out _ _ x3 T3).mono ?_);rintro e w4 ⟨rfl,hb4⟩;have B4:=B3.trans (hb4.mono B3.size);have m4:=m3.below hb4;have g4:=g3.below hb4;have T4:=T3.below hb4;have P4:=P3.below hb4;have Q4:=Q3.below hb4;have x4:=x3.below hb4;clear m3 g3 T3 P3 Q3 x3;clear cP0_3 cP1_3 cP2_3 cP3_3 cP4_3 cP5_3 fP0_3 fP1_3 fP2_3 fP3_3 fP4_3 fP5_3 sP_3;obtain⟨cP0_4,cP1_4,cP2_4,cP3_4,cP4_4,cP5_4,fP0_4,fP1_4,fP2_4,fP3_4,fP4_4,fP5_4,sP_4⟩:=P4.open6;clear cQ0_3 cQ1_3 cQ2_3 fQ0_3 fQ1_3 fQ2_3 sQ_3;obtain⟨cQ0_4,cQ1_4,cQ2_4,fQ0_4,fQ1_4,fQ2_4,sQ_4⟩:=Q4.open3)
     |fail)
  go_ret3
  exact⟨x1,g1,rfl,by simp,by assumption⟩
 ·go_enter Tryz.func59,Tryz.ntmps59
  go_wp2_with
   (first
     |(go_at_call 87;(with_reducible refine(HR.out _ _ _ (h.below (below_alloc _ _)) (h'.below (below_alloc _ _)) (hT.below (below_alloc _ _))).mono ?_);rintro e w1 ⟨rfl,hb1⟩;have B1:=(below_alloc _ _).trans (hb1.mono (below_alloc _ _).size);have m1:=((h.below (below_alloc _ _))).below hb1;have g1:=((h'.below (below_alloc _ _))).below hb1;have T1:=((hT.below (below_alloc _ _))).below hb1;have P1:=((blk_new)).below hb1;obtain⟨cP0_1,cP1_1,cP2_1,cP3_1,cP4_1,cP5_1,fP0_1,fP1_1,fP2_1,fP3_1,fP4_1,fP5_1,sP_1⟩:=P1.open6)
     |(go_at_call 90;(with_reducible refine(HD.out _).mono ?_);rintro e w2 ⟨rfl,rfl⟩)
     |(go_at_call 89;(with_reducible refine(S2.out _ _ (g1.below (below_alloc _ _)) (T1.below (below_alloc _ _))).mono ?_);rintro e w3 ⟨vy3,rfl,y3,hb3⟩;have hb3':=(below_a hb3);have B3:=B1.trans (hb3'.mono B1.size);have m3:=m1.below hb3';have g3:=g1.below hb3';have T3:=T1.below hb3';have P3:=P1.below hb3';clear m1 g1 T1 P1;have Q3:=blk_new.below hb3;obtain⟨cP0_3,cP1_3,cP2_3,cP3_3,cP4_3,cP5_3,fP0_3,fP1_3,fP2_3,fP3_3,fP4_3,fP5_3,sP_3⟩:=P3.open6;obtain⟨cQ0_3,cQ1_3,cQ2_3,fQ0_3,fQ1_3,fQ2_3,sQ_3⟩:=Q3.open3;obtain⟨ay3,ky3,rfl,-⟩:=y3.view;try simp only[List.length_nil]at y3)
     |(go_at_call 55;(with_reducible refine(T2.out _ _ y3 T3).mono ?_);rintro e w4 ⟨rfl,hb4⟩;have B4:=B3.trans (hb4.mono B3.size);have m4:=m3.below hb4;have g4:=g3.below hb4;have T4:=T3.below hb4;have P4:=P3.below hb4;have Q4:=Q3.below hb4;have y4:=y3.below hb4;clear m3 g3 T3 P3 Q3 y3;clear cP0_3 cP1_3 cP2_3 cP3_3 cP4_3 cP5_3 fP0_3 fP1_3 fP2_3 fP3_3 fP4_3 fP5_3 sP_3;obtain⟨cP0_4,cP1_4,cP2_4,cP3_4,cP4_4,cP5_4,fP0_4,fP1_4,fP2_4,fP3_4,fP4_4,fP5_4,sP_4⟩:=P4.open6;clear cQ0_3 cQ1_3 cQ2_3 fQ0_3 fQ1_3 fQ2_3 sQ_3;obtain⟨cQ0_4,cQ1_4,cQ2_4,fQ0_4,fQ1_4,fQ2_4,sQ_4⟩:=Q4.open3)
     |fail)
  go_ret3
  exact⟨x2,g2,rfl,by simp,by assumption⟩
theorem eat_n {w:World}{n:Bool}{a:Option Addr}{l k:Nat}{e:Int}:Calls Tryz.prog 28 #[.agg #[.bool n,.slice a l k,.int .i64 e]] w (fun r w'=>r= .returned (.agg #[.bool n,.slice a l k,.int .i64 e,.bool n,.slice a l k,.int .i64 e])∧Below w.heap.size w w'):=by
 go_enter Tryz.func28,Tryz.ntmps28
 go_wp2
 obtain⟨z0,z1,z2,z3,z4,z5,-⟩:=(blk_a2 (w:=w) (T:=70) (o:= .cells #[.bool n,.slice a l k,.int .i64 e] 63 (0,0)) (c:= #[.bool n,.slice a l k,.int .i64 e,.bool n,.slice a l k,.int .i64 e])).open6
 refine bodyPost_ret (v:= .agg #[.bool n,.slice a l k,.int .i64 e,.bool n,.slice a l k,.int .i64 e]) (by simp[results,Tryz.results28,go_sem,z0,z1,z2,z3,z4,z5]) rfl ⟨rfl,below_2⟩
theorem eis_n {w:World}{b:Nat}:Calls Tryz.prog 25 #[L64 b] w (fun r w'=>r= .returned (.tuple #[.agg #[L64 b,.int .u8 0,.int .i64 0],.int .i64 0,.int .i64 0])∧Below w.heap.size w w'):=by
 go_enter Tryz.func25,Tryz.ntmps25
 go_wp2
 obtain⟨z0,z1,z2,-⟩:=(blk_new (w:=w) (T:=38) (c:= #[.int .u64 (b:Int),.int .u8 0,.int .i64 0])).open3
 refine bodyPost_ret (v:= .tuple #[.agg #[L64 b,.int .u8 0,.int .i64 0],.int .i64 0,.int .i64 0]) (by simp[results,Tryz.results25,go_sem,z0,z1,z2]) rfl ⟨rfl,below_alloc _ _⟩
def hrB (lo hi:Dn):Bool:=decide (cmpD lo hi≤0)&&decide (0<signD lo)
theorem qv_above {d:Dn}(h:0<qv d):d.neg=false∧d.m≠0:=by
 obtain⟨n,m,e⟩:=d
 dsimp only
 have hm:m≠0:=fun h0=>by rw[qv_zero (d:=⟨n,m,e⟩) h0]at h;exact absurd h (by decide)
 refine⟨?_,hm⟩
 cases n
 ·rfl
 ·rw[qv_neg]at h
  have h1:0<(m:Rat)*pw e:=Rat.mul_pos (Rat.natCast_pos.2 (Nat.pos_of_ne_zero hm)) (pw_pos e)
  exfalso;grind
theorem hr_vals {lo hi:Dn}(h:hrB lo hi=true):0<qv lo∧qv lo≤qv hi:=by
 unfold hrB at h
 rw[Bool.and_eq_true]at h
 have h1:=of_decide_eq_true h.1
 have h2:=of_decide_eq_true h.2
 constructor
 ·rcases signD_val lo with⟨a,b⟩|⟨a,b⟩|⟨a,b⟩
  ·omega
  ·omega
  ·exact a
 ·rcases cmpD_val lo hi with⟨a,b⟩|⟨a,b⟩|⟨a,b⟩
  ·grind
  ·grind
  ·omega
theorem hr_of {lo hi:Dn}(h1:0<qv lo) (h2:qv lo≤qv hi):hrB lo hi=true:=by
 unfold hrB
 rw[Bool.and_eq_true]
 refine⟨decide_eq_true (cmpD_le h2),decide_eq_true ?_⟩
 rcases signD_val lo with⟨a,b⟩|⟨a,b⟩|⟨a,b⟩
 ·exfalso;grind
 ·exfalso;grind
 ·omega
theorem hr_pos {lo hi:Dn}(h:hrB lo hi=true):lo.neg=false∧hi.neg=false∧lo.m≠0∧hi.m≠0:=by
 obtain⟨h1,h2⟩:=hr_vals h
 obtain⟨a,b⟩:=qv_above h1
 obtain⟨c,d⟩:=qv_above (show 0<qv hi by grind)
 exact⟨a,c,b,d⟩
structure BareI (lo hi:Dn):Prop where
 q1:bareD lo=lo
 q2:bareD hi=hi
 t1:fitsE lo.e=true
 t2:fitsE hi.e=true
 s1:bitN lo.m≤50000
 s2:bitN hi.m≤50000
def decG (neg:Bool) (lo hi:Dn) (dir:Int):Bool×Nat×Int:=if hrB lo hi then decB neg lo.m lo.e hi.m hi.e dir else(false,0,0)
def looseG (neg:Bool) (lo hi:Dn) (dir:Int):Bool×Nat×Int:=
 if hrB lo hi then(true,if downB neg dir then toB neg hi.m hi.e true dir else toB neg lo.m lo.e true dir)else(false,0,0)
theorem dround_g {w:World}{v u:Value}{n1 n2 neg:Bool}{M1 M2:Nat}{E1 E2 dir:Int}(h:RdN w v (digs BB M1)) (h':RdN w u (digs BB M2)) (hT:Tab w) (B:BareI ⟨n1,M1,E1⟩ ⟨n2,M2,E2⟩) (d0:0≤dir) (d3:dir≤3):
 Calls Tryz.prog 58 #[.agg #[.bool n1,v,.int .i64 E1,.bool n2,u,.int .i64 E2],.bool neg,.int .i64 dir] w (fun e w'=>∃(b:Nat) (f:Int) (ok:Bool),e= .returned (.tuple #[L64 b,.int .u8 f,.bool ok])∧decG neg ⟨n1,M1,E1⟩ ⟨n2,M2,E2⟩ dir=(ok,b,f)∧Below w.heap.size w w'):=by
 unfold decG
 obtain⟨r,hr⟩:∃r,hrB ⟨n1,M1,E1⟩ ⟨n2,M2,E2⟩=r:=⟨_,rfl⟩
 rw[hr]
 have s1:=B.s1;have s2:=B.s2
 dsimp only at s1 s2
 cases r
 ·refine(dround_no h h' hT B.q1 B.q2 B.t1 B.t2 (by omega) (by omega) hr d0 d3).mono ?_
  rintro e w' ⟨rfl,hb⟩
  exact⟨0,0,false,rfl,if_neg (by decide),hb⟩
 ·obtain⟨a1,a2,a3,a4⟩:=hr_pos hr
  dsimp only at a1 a2 a3 a4
  subst a1 a2
  refine(dround_n (neg:=neg) h h' hT B.q1 B.q2 B.t1 B.t2 s1 s2 a3 a4 hr d0 d3).mono ?_
  rintro e w' ⟨b,f,ok,rfl,he,hb⟩
  exact⟨b,f,ok,rfl,(if_pos rfl).trans he,hb⟩
theorem dloose_g {w:World}{v u:Value}{n1 n2 neg:Bool}{M1 M2:Nat}{E1 E2 dir:Int}(h:RdN w v (digs BB M1)) (h':RdN w u (digs BB M2)) (hT:Tab w) (B:BareI ⟨n1,M1,E1⟩ ⟨n2,M2,E2⟩) (d0:0≤dir) (d3:dir≤3):
 Calls Tryz.prog 59 #[.agg #[.bool n1,v,.int .i64 E1,.bool n2,u,.int .i64 E2],.bool neg,.int .i64 dir] w (fun e w'=>∃(b:Nat) (f:Int) (ok:Bool),e= .returned (.tuple #[L64 b,.int .u8 f,.bool ok])∧looseG neg ⟨n1,M1,E1⟩ ⟨n2,M2,E2⟩ dir=(ok,b,f)∧Below w.heap.size w w'):=by
 unfold looseG
 obtain⟨r,hr⟩:∃r,hrB ⟨n1,M1,E1⟩ ⟨n2,M2,E2⟩=r:=⟨_,rfl⟩
 rw[hr]
 have s1:=B.s1;have s2:=B.s2
 dsimp only at s1 s2
 cases r
 ·refine(dloose_no h h' hT B.q1 B.q2 B.t1 B.t2 (by omega) (by omega) hr d0 d3).mono ?_
  rintro e w' ⟨rfl,hb⟩
  exact⟨0,0,false,rfl,if_neg (by decide),hb⟩
 ·obtain⟨a1,a2,a3,a4⟩:=hr_pos hr
  dsimp only at a1 a2 a3 a4
  subst a1 a2
  refine(dloose_n (neg:=neg) h h' hT B.q1 B.q2 B.t1 B.t2 s1 s2 a3 a4 hr d0 d3).mono ?_
  rintro e w' ⟨b,f,rfl,he,hb⟩
  exact⟨b,f,true,rfl,(if_pos rfl).trans (by rw[←he]),hb⟩
theorem Blk.open1 {w:World}{b:Nat}{x0:Value}(h:Blk w b #[x0]):w.cell? ⟨b,0,none⟩=some x0∧w.frozen? ⟨b,0,none⟩=false∧b<w.heap.size:=by
 obtain⟨h1,T,h2⟩:=h
 exact⟨cell_at h2 rfl,free_at h2,h1⟩
theorem Blk.open4 {w:World}{b:Nat}{x0 x1 x2 x3:Value}(h:Blk w b #[x0,x1,x2,x3]):w.cell? ⟨b,0,none⟩=some x0∧w.cell? ⟨b,1,none⟩=some x1∧w.cell? ⟨b,2,none⟩=some x2∧w.cell? ⟨b,3,none⟩=some x3∧w.frozen? ⟨b,0,none⟩=false∧w.frozen? ⟨b,1,none⟩=false∧w.frozen? ⟨b,2,none⟩=false∧w.frozen? ⟨b,3,none⟩=false∧b<w.heap.size:=by
 obtain⟨h1,T,h2⟩:=h
 exact⟨cell_at h2 rfl,cell_at h2 rfl,cell_at h2 rfl,cell_at h2 rfl,free_at h2,free_at h2,free_at h2,free_at h2,h1⟩
theorem Blk.set9 {w:World}{b:Nat}{x0 x1 x2 x3 x4 x5 x6 x7 x8:Value}(h:Blk w b #[x0,x1,x2,x3,x4,x5,x6,x7,x8]) (y0 y1 y2 y3 y4 y5 y6 y7 y8:Value):Blk ((((((((((w).setCell ⟨b,0,none⟩ y0).setCell ⟨b,1,none⟩ y1).setCell ⟨b,2,none⟩ y2).setCell ⟨b,3,none⟩ y3).setCell ⟨b,4,none⟩ y4).setCell ⟨b,5,none⟩ y5).setCell ⟨b,6,none⟩ y6).setCell ⟨b,7,none⟩ y7).setCell ⟨b,8,none⟩ y8) b #[y0,y1,y2,y3,y4,y5,y6,y7,y8]:=by
 have h0:Blk (w.setCell ⟨b,0,none⟩ y0) b #[y0,x1,x2,x3,x4,x5,x6,x7,x8]:=h.setAt 0 y0
 generalize w.setCell ⟨b,0,none⟩ y0=w1 at h0⊢
 have h1:Blk (w1.setCell ⟨b,1,none⟩ y1) b #[y0,y1,x2,x3,x4,x5,x6,x7,x8]:=h0.setAt 1 y1
 generalize w1.setCell ⟨b,1,none⟩ y1=w2 at h1⊢
 have h2:Blk (w2.setCell ⟨b,2,none⟩ y2) b #[y0,y1,y2,x3,x4,x5,x6,x7,x8]:=h1.setAt 2 y2
 generalize w2.setCell ⟨b,2,none⟩ y2=w3 at h2⊢
 have h3:Blk (w3.setCell ⟨b,3,none⟩ y3) b #[y0,y1,y2,y3,x4,x5,x6,x7,x8]:=h2.setAt 3 y3
 generalize w3.setCell ⟨b,3,none⟩ y3=w4 at h3⊢
 have h4:Blk (w4.setCell ⟨b,4,none⟩ y4) b #[y0,y1,y2,y3,y4,x5,x6,x7,x8]:=h3.setAt 4 y4
 generalize w4.setCell ⟨b,4,none⟩ y4=w5 at h4⊢
 have h5:Blk (w5.setCell ⟨b,5,none⟩ y5) b #[y0,y1,y2,y3,y4,y5,x6,x7,x8]:=h4.setAt 5 y5
 generalize w5.setCell ⟨b,5,none⟩ y5=w6 at h5⊢
 have h6:Blk (w6.setCell ⟨b,6,none⟩ y6) b #[y0,y1,y2,y3,y4,y5,y6,x7,x8]:=h5.setAt 6 y6
 generalize w6.setCell ⟨b,6,none⟩ y6=w7 at h6⊢
 have h7:Blk (w7.setCell ⟨b,7,none⟩ y7) b #[y0,y1,y2,y3,y4,y5,y6,y7,x8]:=h6.setAt 7 y7
 generalize w7.setCell ⟨b,7,none⟩ y7=w8 at h7⊢
 have h8:Blk (w8.setCell ⟨b,8,none⟩ y8) b #[y0,y1,y2,y3,y4,y5,y6,y7,y8]:=h7.setAt 8 y8
 generalize w8.setCell ⟨b,8,none⟩ y8=w9 at h8⊢
 exact h8
theorem Fr.set9 {w:World}{b:Nat}(y0 y1 y2 y3 y4 y5 y6 y7 y8:Value):Fr (fun g=>g=b) w ((((((((((w).setCell ⟨b,0,none⟩ y0).setCell ⟨b,1,none⟩ y1).setCell ⟨b,2,none⟩ y2).setCell ⟨b,3,none⟩ y3).setCell ⟨b,4,none⟩ y4).setCell ⟨b,5,none⟩ y5).setCell ⟨b,6,none⟩ y6).setCell ⟨b,7,none⟩ y7).setCell ⟨b,8,none⟩ y8):=by
 have h0:Fr (fun g=>g=b) w (w.setCell ⟨b,0,none⟩ y0):=fr_set1 (Fr.refl _ w) 0 y0
 generalize w.setCell ⟨b,0,none⟩ y0=w1 at h0⊢
 have h1:Fr (fun g=>g=b) w (w1.setCell ⟨b,1,none⟩ y1):=fr_set1 h0 1 y1
 generalize w1.setCell ⟨b,1,none⟩ y1=w2 at h1⊢
 have h2:Fr (fun g=>g=b) w (w2.setCell ⟨b,2,none⟩ y2):=fr_set1 h1 2 y2
 generalize w2.setCell ⟨b,2,none⟩ y2=w3 at h2⊢
 have h3:Fr (fun g=>g=b) w (w3.setCell ⟨b,3,none⟩ y3):=fr_set1 h2 3 y3
 generalize w3.setCell ⟨b,3,none⟩ y3=w4 at h3⊢
 have h4:Fr (fun g=>g=b) w (w4.setCell ⟨b,4,none⟩ y4):=fr_set1 h3 4 y4
 generalize w4.setCell ⟨b,4,none⟩ y4=w5 at h4⊢
 have h5:Fr (fun g=>g=b) w (w5.setCell ⟨b,5,none⟩ y5):=fr_set1 h4 5 y5
 generalize w5.setCell ⟨b,5,none⟩ y5=w6 at h5⊢
 have h6:Fr (fun g=>g=b) w (w6.setCell ⟨b,6,none⟩ y6):=fr_set1 h5 6 y6
 generalize w6.setCell ⟨b,6,none⟩ y6=w7 at h6⊢
 have h7:Fr (fun g=>g=b) w (w7.setCell ⟨b,7,none⟩ y7):=fr_set1 h6 7 y7
 generalize w7.setCell ⟨b,7,none⟩ y7=w8 at h7⊢
 have h8:Fr (fun g=>g=b) w (w8.setCell ⟨b,8,none⟩ y8):=fr_set1 h7 8 y8
 generalize w8.setCell ⟨b,8,none⟩ y8=w9 at h8⊢
 exact h8
theorem zcells9:∀x∈(#[.int .u64 0,.int .u8 0,.int .i64 0,.bool false,.slice none 0 0,.int .i64 0,.bool false,.slice none 0 0,.int .i64 0]:Array Value).toList,∀n:Nat,x=L64 n→n=0:=by
 intro x hx n h
 rw[h]at hx
 simpa[L64]using hx
theorem decG_no {neg:Bool}{lo hi:Dn}{dir:Int}{b:Nat}{f:Int}(h:decG neg lo hi dir=(false,b,f)):b=0∧f=0:=by
 unfold decG decB at h
 split at h
 ·split at h
  ·cases h
  ·injection h with h1 h2;injection h2 with h2 h3;exact⟨h2.symm,h3.symm⟩
 ·injection h with h1 h2;injection h2 with h2 h3;exact⟨h2.symm,h3.symm⟩
def PRun (Iv:Nat→Dn→Dn→Prop) (neg:Bool) (dir:Int) (n:Nat) (ok:Bool) (b:Nat) (f:Int) (lo hi:Dn):Prop:=
 Iv n lo hi∧BareI lo hi∧decG neg lo hi dir=(ok,b,f)
set_option maxHeartbeats 1000000 in
theorem run1_exp {w:World}{g0 g1 g2 n:Nat}{neg:Bool}{dir fr pt:Int}{Iv:Nat→Dn→Dn→Prop}{p0:Value}(hT:Tab w) (d0:0≤dir) (d3:dir≤3) (P0:Blk w g0 #[.func (.func 31) #[] #[p0]]) (P1:Blk w g1 #[.bool neg]) (P2:Blk w g2 #[.int .i64 dir,.int .i64 fr,.int .i64 pt,.pointer none])
 (HH:∀w',Below w.heap.size w w'→Calls Tryz.prog 31 #[.int .i64 (n:Int),p0] w' (fun e w''=>∃n1 m1 f1 n2 m2 f2 x y,e= .returned (.tuple #[.agg #[.bool n1,x,.int .i64 f1,.bool n2,y,.int .i64 f2],.int .i64 0])∧(Iv n ⟨n1,m1,f1⟩ ⟨n2,m2,f2⟩∧BareI ⟨n1,m1,f1⟩ ⟨n2,m2,f2⟩)∧RdN w'' x (digs BB m1)∧RdN w'' y (digs BB m2)∧Below w'.heap.size w' w'')):
 Calls Tryz.prog 57 #[.int .i64 (n:Int),.pointer (some ⟨g0,0,none⟩),.pointer (some ⟨g1,0,none⟩),.pointer (some ⟨g2,0,none⟩)] w (fun e w'=>∃c ok,e= .returned (.tuple #[.agg c,.bool ok])∧AnsR (PRun Iv neg dir) w' c ok n∧Below w.heap.size w w'):=by
 have HH:=Lib.hid HH
 have B0:=below_alloc w (.cells #[.int .u64 0,.int .u8 0,.int .i64 0,.bool false,.slice none 0 0,.int .i64 0,.bool false,.slice none 0 0,.int .i64 0] 102)
 have R0:=blk_new (w:=w) (T:=102) (c:= #[.int .u64 0,.int .u8 0,.int .i64 0,.bool false,.slice none 0 0,.int .i64 0,.bool false,.slice none 0 0,.int .i64 0])
 have hw0:=P0.1
 have hw1:=P1.1
 have hw2:=P2.1
 have Q0:=P0.below B0
 have Q1:=P1.below B0
 have Q2:=P2.below B0
 go_enter Tryz.func57,Tryz.ntmps57
 go_upto_region 1 with fail
 have hT0:=hT.below B0
 have HH0:=Lib.hid (HH.out _ B0)
 generalize w.alloc (.cells #[.int .u64 0,.int .u8 0,.int .i64 0,.bool false,.slice none 0 0,.int .i64 0,.bool false,.slice none 0 0,.int .i64 0] 102)=w0 at*
 obtain⟨cq0,fq0,sq0⟩:=Q0.open1
 go_upto_region 2 with(first
  |(go_at_call 31;(with_reducible refine HH0.out.mono ?_);rintro e w1 ⟨n1,m1,f1,n2,m2,f2,xv,yv,rfl,⟨hI,hG⟩,x1,y1,HB⟩;obtain⟨ax1,kx1,rfl,-⟩:=x1.view;obtain⟨ay1,ky1,rfl,-⟩:=y1.view)
  |fail)
 have hI:=Lib.hid hI;have hG:=Lib.hid hG
 have hA7:=below_alloc w1 (.cells #[.bool n1,.slice ax1 (digs BB m1).length kx1,.int .i64 f1,.bool n2,.slice ay1 (digs BB m2).length ky1,.int .i64 f2] 70)
 have R7:Blk (w1.alloc (.cells #[.bool n1,.slice ax1 (digs BB m1).length kx1,.int .i64 f1,.bool n2,.slice ay1 (digs BB m2).length ky1,.int .i64 f2] 70)) w1.heap.size #[.bool n1,.slice ax1 (digs BB m1).length kx1,.int .i64 f1,.bool n2,.slice ay1 (digs BB m2).length ky1,.int .i64 f2]:=blk_new
 have T7:=(hT0.below HB).below hA7
 have Qa:=(Q1.below HB).below hA7
 have Qb:=(Q2.below HB).below hA7
 have R0a:=(R0.below HB).below hA7
 have x7:=x1.below hA7
 have y7:=y1.below hA7
 have B7:=(B0.trans (HB.mono B0.size)).trans (hA7.mono (Nat.le_trans B0.size HB.size))
 change Code.wp _ _ _ _ (w1.alloc (.cells #[.bool n1,.slice ax1 (digs BB m1).length kx1,.int .i64 f1,.bool n2,.slice ay1 (digs BB m2).length ky1,.int .i64 f2] 70))
 clear hT0 Q0 Q1 Q2 R0 x1 y1 B0 HH HH0 cq0 fq0 sq0 P0 P1 P2 hT
 generalize w1.alloc (.cells #[.bool n1,.slice ax1 (digs BB m1).length kx1,.int .i64 f1,.bool n2,.slice ay1 (digs BB m2).length ky1,.int .i64 f2] 70)=w7 at*
 generalize w1.heap.size=b7 at*
 have HR:=Lib.hid (dround_g (neg:=neg) x7 y7 T7 hG.out d0 d3)
 clear hA7 HB
 obtain⟨q0,q1,q2,q3,q4,q5,p0',p1',p2',p3',p4',p5',hb7⟩:=R7.open6
 obtain⟨ca,fa,sa⟩:=Qa.open1
 obtain⟨cb0,cb1,cb2,cb3,fb0,fb1,fb2,fb3,sb⟩:=Qb.open4
 go_upto_region 5 with(first
  |(go_at_call 58;(with_reducible refine HR.out.mono ?_);rintro e w8 ⟨b,f,ok,rfl,hdec,h8⟩)
  |fail)
 have R8:=R7.below h8
 have R0b:=R0a.below h8
 have x8:=x7.below h8
 have y8:=y7.below h8
 have B8:=B7.trans (h8.mono B7.size)
 have hdec:=Lib.hid hdec
 clear R7 R0a x7 y7 B7 h8 HR T7 Qa Qb ca fa sa cb0 cb1 cb2 cb3 fb0 fb1 fb2 fb3 sb q0 q1 q2 q3 q4 q5 p0' p1' p2' p3' p4' p5' hb7
 obtain⟨q0,q1,q2,q3,q4,q5,-⟩:=R8.open6
 obtain⟨s0,s1,s2,s3,s4,s5,s6,s7,s8,s9,s10,s11,s12,s13,s14,s15,s16,s17,s18⟩:=R0b.open9
 go_wp2_with fail
 have RZ:=R0b.set9 (L64 b) (.int .u8 f) (.int .i64 0) (.bool n1) (.slice ax1 (digs BB m1).length kx1) (.int .i64 f1) (.bool n2) (.slice ay1 (digs BB m2).length ky1) (.int .i64 f2)
 have FE:=Fr.set9 (w:=w8) (b:=w.heap.size) (L64 b) (.int .u8 f) (.int .i64 0) (.bool n1) (.slice ax1 (digs BB m1).length kx1) (.int .i64 f1) (.bool n2) (.slice ay1 (digs BB m2).length ky1) (.int .i64 f2)
 have X:Rd (fun g=>g≠w.heap.size) w8 (.slice ax1 (digs BB m1).length kx1) ((digs BB m1).map L64):=RdN.away0 x8 R0b zcells9
 have Y:Rd (fun g=>g≠w.heap.size) w8 (.slice ay1 (digs BB m2).length ky1) ((digs BB m2).map L64):=RdN.away0 y8 R0b zcells9
 have X2:=X.keep FE (fun _ h=>h)
 have Y2:=Y.keep FE (fun _ h=>h)
 have hBf:=B8.trans (FE.below B8.size (fun k hk e=>by omega))
 change bodyPost _ _ _ _ _ ((((((((((w8).setCell ⟨w.heap.size,0,none⟩ (L64 b)).setCell ⟨w.heap.size,1,none⟩ (.int .u8 f)).setCell ⟨w.heap.size,2,none⟩ (.int .i64 0)).setCell ⟨w.heap.size,3,none⟩ (.bool n1)).setCell ⟨w.heap.size,4,none⟩ (.slice ax1 (digs BB m1).length kx1)).setCell ⟨w.heap.size,5,none⟩ (.int .i64 f1)).setCell ⟨w.heap.size,6,none⟩ (.bool n2)).setCell ⟨w.heap.size,7,none⟩ (.slice ay1 (digs BB m2).length ky1)).setCell ⟨w.heap.size,8,none⟩ (.int .i64 f2))
 generalize (((((((((w8).setCell ⟨w.heap.size,0,none⟩ (L64 b)).setCell ⟨w.heap.size,1,none⟩ (.int .u8 f)).setCell ⟨w.heap.size,2,none⟩ (.int .i64 0)).setCell ⟨w.heap.size,3,none⟩ (.bool n1)).setCell ⟨w.heap.size,4,none⟩ (.slice ax1 (digs BB m1).length kx1)).setCell ⟨w.heap.size,5,none⟩ (.int .i64 f1)).setCell ⟨w.heap.size,6,none⟩ (.bool n2)).setCell ⟨w.heap.size,7,none⟩ (.slice ay1 (digs BB m2).length ky1)).setCell ⟨w.heap.size,8,none⟩ (.int .i64 f2)=wf at*
 obtain⟨z0,z1,z2,z3,z4,z5,z6,z7,z8,-⟩:=RZ.open9
 refine bodyPost_ret (v:= .tuple #[.agg #[L64 b,.int .u8 f,.int .i64 0,.bool n1,.slice ax1 (digs BB m1).length kx1,.int .i64 f1,.bool n2,.slice ay1 (digs BB m2).length ky1,.int .i64 f2],.bool ok]) (by simp[results,Tryz.results57,go_sem,z0,z1,z2,z3,z4,z5,z6,z7,z8]) rfl ⟨#[L64 b,.int .u8 f,.int .i64 0,.bool n1,.slice ax1 (digs BB m1).length kx1,.int .i64 f1,.bool n2,.slice ay1 (digs BB m2).length ky1,.int .i64 f2],ok,rfl,⟨b,f,n1,m1,f1,n2,m2,f2,ax1,kx1,ay1,ky1,rfl,⟨hI.out,hG.out,hdec.out⟩,(fun h=>(decG_no (hdec.out.trans (by rw[h]))).1),X2.mono (fun _ _ _=>trivial),Y2.mono (fun _ _ _=>trivial)⟩,hBf⟩
open Go.RowKit
def RunR (Iv:Nat→Dn→Dn→Prop) (neg:Bool) (dir:Int) (l:List Nat) (b:Nat) (f st tr:Int):Prop:=
 (st=0∧∃(i n:Nat) (lo hi:Dn),i<9∧l[i]?=some n∧tr=((i+1:Nat):Int)∧(∀j,j<i→Failed (PRun Iv neg dir) l j)∧PRun Iv neg dir n true b f lo hi)∨
 (st=1∧tr=(l.length:Int)∧(∀j,j<l.length→Failed (PRun Iv neg dir) l j)∧∃n lo hi ok b' f',l[l.length-1]?=some n∧PRun Iv neg dir n false 0 0 lo hi∧looseG neg lo hi dir=(ok,b',f')∧(b,f)=if ok then(b',f')else(9221120237041090560,1))
theorem toB_more (neg:Bool) (M:Nat) (E dir:Int):(toB neg M E true dir).2=1∨(toB neg M E true dir).2=3∨(toB neg M E true dir).2=5:=by
 unfold toB
 split
 ·exact .inr (.inr rfl)
 ·split
  ·exact .inr (.inl rfl)
  ·unfold flagB wholeP
   dsimp only
   rw[Bool.or_true,Bool.or_true,if_pos rfl]
   split
   ·exact .inr (.inr rfl)
   ·split
    ·exact .inr (.inl rfl)
    ·exact .inl rfl
theorem loose_flags {neg ok:Bool}{lo hi:Dn}{dir f:Int}{b:Nat}(h:looseG neg lo hi dir=(ok,b,f)):(ok=true∧(f=1∨f=3∨f=5))∨(ok=false∧b=0∧f=0):=by
 unfold looseG at h
 split at h
 ·left
  injection h with e1 e2
  refine⟨e1.symm,?_⟩
  have a:=toB_more neg hi.m hi.e dir
  have c:=toB_more neg lo.m lo.e dir
  split at e2
  ·rw[e2]at a;exact a
  ·rw[e2]at c;exact c
 ·right
  injection h with e1 e2
  injection e2 with e2 e3
  exact⟨e1.symm,e2.symm,e3.symm⟩
theorem cells12 {w:World}{b:Nat}{x0 x1 x2 x3 x4 x5 x6 x7 x8 x9 x10 x11:Value}(h:Blk w b #[x0,x1,x2,x3,x4,x5,x6,x7,x8,x9,x10,x11]):w.cell? ⟨b,0,none⟩=some x0∧w.cell? ⟨b,1,none⟩=some x1∧w.cell? ⟨b,2,none⟩=some x2∧w.cell? ⟨b,10,none⟩=some x10:=by
 obtain⟨h1,T,h2⟩:=h
 exact⟨cell_at h2 rfl,cell_at h2 rfl,cell_at h2 rfl,cell_at h2 rfl⟩
theorem cells12t {w:World}{b:Nat}{x0 x1 x2 x3 x4 x5 x6 x7 x8 x9 x10 x11:Value}(h:Blk w b #[x0,x1,x2,x3,x4,x5,x6,x7,x8,x9,x10,x11]):w.cell? ⟨b,10,none⟩=some x10:=(cells12 h).2.2.2
end Go.Proofs.YtffaefjkpipjnaaGreatDoor
