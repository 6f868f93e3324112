/- decide.Round by its contract. Conditions: both ends are bare, fit, and aren't nought. -/
import Derived.Test.YtffaefjkpipjnaaGreatDoorPkC21
import Derived.Test.YtffaefjkpipjnaaGreatDoorPkC16
import Derived.Test.YtffaefjkpipjnaaGreatDoorPkC15
import Derived.Test.YtffaefjkpipjnaaGreatDoorPkC01
namespace Go.Proofs.YtffaefjkpipjnaaGreatDoor
set_option linter.unusedVariables false
set_option linter.unusedSimpArgs false
set_option maxRecDepth 100000
open Go.RowKit Go.ChangeShapes Go.WideShapes
set_option maxHeartbeats 1000000 in
theorem dround_no {w:World}{v u:Value}{n1 n2 neg:Bool}{M1 M2:Nat}{E1 E2 dir:Int}(h:RdN w v (digs BB M1)) (h':RdN w u (digs BB M2)) (hT:Tab w) (q1:bareD ⟨n1,M1,E1⟩=⟨n1,M1,E1⟩) (q2:bareD ⟨n2,M2,E2⟩=⟨n2,M2,E2⟩) (f1:fitsE E1=true) (f2:fitsE E2=true) (s1:bitN M1≤400000) (s2:bitN M2≤400000)
 (hr:(decide (cmpD ⟨n1,M1,E1⟩ ⟨n2,M2,E2⟩≤0)&&decide (0<signD ⟨n1,M1,E1⟩))=false) (d0:0≤dir) (d3:dir≤3):
 Calls Tryz.prog 58 #[.agg #[.bool n1,v,.int .i64 E1,.bool n2,u,.int .i64 E2],.bool neg,.int .i64 dir] w (fun e w'=>e= .returned (.tuple #[L64 0,.int .u8 0,.bool false])∧Below w.heap.size w w'):=by
 obtain⟨av,kv,rfl,-,-,-,-⟩:=h.view
 obtain⟨au,ku,rfl,-,-,-,-⟩:=h'.view
 have HR:=Lib.hid (fun w v u (h:RdN w v (digs BB M1)) (k:RdN w u (digs BB M2)) (hT:Tab w)=>dright_n h k hT q1 q2 f1 f2 s1 s2 rfl rfl d0 d3)
 rw[hr]at HR
 clear q1 q2 f1 f2 s1 s2 hr d0 d3
 go_enter Tryz.func58,Tryz.ntmps58
 go_wp2_with
  (first
    |(go_at_call 87;(with_reducible refine(HR.out _ _ _ (h.below (below_alloc _ _)) (h'.below (below_alloc _ _)) (hT.below (below_alloc _ _))).mono ?_);rintro e w1 ⟨rfl,hb1⟩;have B1:=(below_alloc _ _).trans (hb1.mono (below_alloc _ _).size);have m1:=((h.below (below_alloc _ _))).below hb1;have g1:=((h'.below (below_alloc _ _))).below hb1;have T1:=((hT.below (below_alloc _ _))).below hb1;have P1:=((blk_new)).below hb1;obtain⟨cP0_1,cP1_1,cP2_1,cP3_1,cP4_1,cP5_1,fP0_1,fP1_1,fP2_1,fP3_1,fP4_1,fP5_1,sP_1⟩:=P1.open6)
    |fail)
 go_ret3
 exact⟨rfl,by assumption⟩
def decB (neg:Bool) (M1:Nat) (E1:Int) (M2:Nat) (E2 dir:Int):Bool×Nat×Int:=
 if isBrk M1 E1=false∧isBrk M2 E2=false∧toB neg M1 E1 false dir=toB neg M2 E2 false dir then(true,toB neg M1 E1 false dir)else(false,0,0)
set_option maxHeartbeats 2000000 in
theorem dround_n {w:World}{v u:Value}{neg:Bool}{M1 M2:Nat}{E1 E2 dir:Int}(h:RdN w v (digs BB M1)) (h':RdN w u (digs BB M2)) (hT:Tab w) (q1:bareD ⟨false,M1,E1⟩=⟨false,M1,E1⟩) (q2:bareD ⟨false,M2,E2⟩=⟨false,M2,E2⟩) (f1:fitsE E1=true) (f2:fitsE E2=true) (s1:bitN M1≤50000) (s2:bitN M2≤50000) (z1:M1≠0) (z2:M2≠0)
 (hr:(decide (cmpD ⟨false,M1,E1⟩ ⟨false,M2,E2⟩≤0)&&decide (0<signD ⟨false,M1,E1⟩))=true) (d0:0≤dir) (d3:dir≤3):
 Calls Tryz.prog 58 #[.agg #[.bool false,v,.int .i64 E1,.bool false,u,.int .i64 E2],.bool neg,.int .i64 dir] w (fun e w'=>∃(b:Nat) (f:Int) (ok:Bool),e= .returned (.tuple #[L64 b,.int .u8 f,.bool ok])∧decB neg M1 E1 M2 E2 dir=(ok,b,f)∧Below w.heap.size w w'):=by
 obtain⟨av,kv,rfl,-,-,-,-⟩:=h.view
 obtain⟨au,ku,rfl,-,-,-,-⟩:=h'.view
 have r1: -1073741824≤E1∧E1≤1073741824:=by unfold fitsE at f1;simp at f1;exact f1
 have r2: -1073741824≤E2∧E2≤1073741824:=by unfold fitsE at f2;simp at f2;exact f2
 obtain⟨r1,r1'⟩:=r1
 obtain⟨r2,r2'⟩:=r2
 have HR:=Lib.hid (fun w v u (h:RdN w v (digs BB M1)) (k:RdN w u (digs BB M2)) (hT:Tab w)=>dright_n h k hT q1 q2 f1 f2 (by omega) (by omega) rfl rfl d0 d3)
 rw[hr]at HR
 obtain⟨b1,hb1⟩:∃b,isBrk M1 E1=b:=⟨_,rfl⟩
 obtain⟨b2,hb2⟩:∃b,isBrk M2 E2=b:=⟨_,rfl⟩
 have H1:=Lib.hid (fun w v (h:RdN w v (digs BB M1)) (hT:Tab w)=>Break_n (r:=b1) (h.num (by omega)) hT (by omega) (by omega) q1 (by omega) (by rw[f1,decide_eq_false z1,hb1];rfl))
 have H2:=Lib.hid (fun w v (h:RdN w v (digs BB M2)) (hT:Tab w)=>Break_n (r:=b2) (h.num (by omega)) hT (by omega) (by omega) q2 (by omega) (by rw[f2,decide_eq_false z2,hb2];rfl))
 have S1:=Lib.hid (fun w v (h:RdN w v (digs BB M1)) (hT:Tab w)=>dsigned_n (s:=neg) h hT q1 f1 z1 (by omega))
 have S2:=Lib.hid (fun w v (h:RdN w v (digs BB M2)) (hT:Tab w)=>dsigned_n (s:=neg) h hT q2 f2 z2 (by omega))
 have p1:bareD ⟨neg,M1,E1⟩=⟨neg,M1,E1⟩:=bareD_odd' (bareD_oddM q1 z1) (by omega) (by omega)
 have p2:bareD ⟨neg,M2,E2⟩=⟨neg,M2,E2⟩:=bareD_odd' (bareD_oddM q2 z2) (by omega) (by omega)
 have T1:=Lib.hid (fun w v (h:RdN w v (digs BB M1)) (hT:Tab w)=>To_any (more:=false) (h.num (by omega)) hT (by omega) (by omega) p1 f1 d0 d3 z1 s1)
 have T2:=Lib.hid (fun w v (h:RdN w v (digs BB M2)) (hT:Tab w)=>To_any (more:=false) (h.num (by omega)) hT (by omega) (by omega) p2 f2 d0 d3 z2 s2)
 obtain⟨⟨x1,g1⟩,e1⟩:∃p,toB neg M1 E1 false dir=p:=⟨_,rfl⟩
 obtain⟨⟨x2,g2⟩,e2⟩:∃p,toB neg M2 E2 false dir=p:=⟨_,rfl⟩
 rw[e1]at T1
 rw[e2]at T2
 obtain⟨z,hz⟩:∃z,decB neg M1 E1 M2 E2 dir=z:=⟨_,rfl⟩
 have hz':=hz
 rw[hz]
 unfold decB at hz
 rw[e1,e2,hb1,hb2]at hz
 clear hz'
 clear q1 q2 f1 f2 p1 p2 r1 r1' r2 r2' s1 s2 hr d0 d3 hb1 hb2 e1 e2 z1 z2
 cases b1
 ·cases b2
  ·by_cases cx:x1=x2
   ·subst cx
    by_cases cg:g1=g2
    ·subst cg
     obtain rfl:z=(true,x1,g1):=hz.symm.trans (if_pos ⟨rfl,rfl,rfl⟩)
     clear hz
     go_enter Tryz.func58,Tryz.ntmps58
     go_wp2_with
      (first
        |(go_at_call 87;(with_reducible refine(HR.out _ _ _ (h.below (below_alloc _ _)) (h'.below (below_alloc _ _)) (hT.below (below_alloc _ _))).mono ?_);rintro e w1 ⟨rfl,hb1⟩;have B1:=(below_alloc _ _).trans (hb1.mono (below_alloc _ _).size);have m1:=((h.below (below_alloc _ _))).below hb1;have g1:=((h'.below (below_alloc _ _))).below hb1;have T1:=((hT.below (below_alloc _ _))).below hb1;have P1:=((blk_new)).below hb1;obtain⟨cP0_1,cP1_1,cP2_1,cP3_1,cP4_1,cP5_1,fP0_1,fP1_1,fP2_1,fP3_1,fP4_1,fP5_1,sP_1⟩:=P1.open6)
        |(go_at_call 88;(with_reducible refine(H1.out _ _ m1 T1).mono ?_);rintro e w2 ⟨rfl,hb2⟩;have B2:=B1.trans (hb2.mono B1.size);have m2:=m1.below hb2;have g2:=g1.below hb2;have T2:=T1.below hb2;have P2:=P1.below hb2;clear m1 g1 T1 P1;clear cP0_1 cP1_1 cP2_1 cP3_1 cP4_1 cP5_1 fP0_1 fP1_1 fP2_1 fP3_1 fP4_1 fP5_1 sP_1;obtain⟨cP0_2,cP1_2,cP2_2,cP3_2,cP4_2,cP5_2,fP0_2,fP1_2,fP2_2,fP3_2,fP4_2,fP5_2,sP_2⟩:=P2.open6)
        |(go_at_call 88;(with_reducible refine(H2.out _ _ g2 T2).mono ?_);rintro e w3 ⟨rfl,hb3⟩;have B3:=B2.trans (hb3.mono B2.size);have m3:=m2.below hb3;have g3:=g2.below hb3;have T3:=T2.below hb3;have P3:=P2.below hb3;clear m2 g2 T2 P2;clear cP0_2 cP1_2 cP2_2 cP3_2 cP4_2 cP5_2 fP0_2 fP1_2 fP2_2 fP3_2 fP4_2 fP5_2 sP_2;obtain⟨cP0_3,cP1_3,cP2_3,cP3_3,cP4_3,cP5_3,fP0_3,fP1_3,fP2_3,fP3_3,fP4_3,fP5_3,sP_3⟩:=P3.open6)
        |(go_at_call 89;(with_reducible refine(S1.out _ _ m3 T3).mono ?_);rintro e w4 ⟨vx4,rfl,x4,hb4⟩;have B4:=B3.trans (hb4.mono B3.size);have m4:=m3.below hb4;have g4:=g3.below hb4;have T4:=T3.below hb4;have P4:=P3.below hb4;clear m3 g3 T3 P3;clear cP0_3 cP1_3 cP2_3 cP3_3 cP4_3 cP5_3 fP0_3 fP1_3 fP2_3 fP3_3 fP4_3 fP5_3 sP_3;obtain⟨cP0_4,cP1_4,cP2_4,cP3_4,cP4_4,cP5_4,fP0_4,fP1_4,fP2_4,fP3_4,fP4_4,fP5_4,sP_4⟩:=P4.open6;obtain⟨ax4,kx4,rfl,-⟩:=x4.view;try simp only[List.length_nil]at x4)
        |(go_at_call 55;(with_reducible refine(T1.out _ _ x4 T4).mono ?_);rintro e w5 ⟨rfl,hb5⟩;have B5:=B4.trans (hb5.mono B4.size);have m5:=m4.below hb5;have g5:=g4.below hb5;have T5:=T4.below hb5;have P5:=P4.below hb5;have x5:=x4.below hb5;clear m4 g4 T4 P4 x4;clear cP0_4 cP1_4 cP2_4 cP3_4 cP4_4 cP5_4 fP0_4 fP1_4 fP2_4 fP3_4 fP4_4 fP5_4 sP_4;obtain⟨cP0_5,cP1_5,cP2_5,cP3_5,cP4_5,cP5_5,fP0_5,fP1_5,fP2_5,fP3_5,fP4_5,fP5_5,sP_5⟩:=P5.open6)
        |(go_at_call 89;(with_reducible refine(S2.out _ _ g5 T5).mono ?_);rintro e w6 ⟨vy6,rfl,y6,hb6⟩;have B6:=B5.trans (hb6.mono B5.size);have m6:=m5.below hb6;have g6:=g5.below hb6;have T6:=T5.below hb6;have P6:=P5.below hb6;have x6:=x5.below hb6;clear m5 g5 T5 P5 x5;clear cP0_5 cP1_5 cP2_5 cP3_5 cP4_5 cP5_5 fP0_5 fP1_5 fP2_5 fP3_5 fP4_5 fP5_5 sP_5;obtain⟨cP0_6,cP1_6,cP2_6,cP3_6,cP4_6,cP5_6,fP0_6,fP1_6,fP2_6,fP3_6,fP4_6,fP5_6,sP_6⟩:=P6.open6;obtain⟨ay6,ky6,rfl,-⟩:=y6.view;try simp only[List.length_nil]at y6)
        |(go_at_call 55;(with_reducible refine(T2.out _ _ y6 T6).mono ?_);rintro e w7 ⟨rfl,hb7⟩;have B7:=B6.trans (hb7.mono B6.size);have m7:=m6.below hb7;have g7:=g6.below hb7;have T7:=T6.below hb7;have P7:=P6.below hb7;have x7:=x6.below hb7;have y7:=y6.below hb7;clear m6 g6 T6 P6 x6 y6;clear cP0_6 cP1_6 cP2_6 cP3_6 cP4_6 cP5_6 fP0_6 fP1_6 fP2_6 fP3_6 fP4_6 fP5_6 sP_6;obtain⟨cP0_7,cP1_7,cP2_7,cP3_7,cP4_7,cP5_7,fP0_7,fP1_7,fP2_7,fP3_7,fP4_7,fP5_7,sP_7⟩:=P7.open6)
        |fail)
     go_ret3
     exact⟨x1,g1,true,rfl,rfl,by assumption⟩
    ·have dg:(g1==g2)=false:=beq_false_of_ne cg
     obtain rfl:z=(false,0,0):=hz.symm.trans (if_neg (fun h=>cg (congrArg Prod.snd h.2.2)))
     clear hz
     go_enter Tryz.func58,Tryz.ntmps58
     go_wp2_with
      (first
        |(go_at_call 87;(with_reducible refine(HR.out _ _ _ (h.below (below_alloc _ _)) (h'.below (below_alloc _ _)) (hT.below (below_alloc _ _))).mono ?_);rintro e w1 ⟨rfl,hb1⟩;have B1:=(below_alloc _ _).trans (hb1.mono (below_alloc _ _).size);have m1:=((h.below (below_alloc _ _))).below hb1;have g1:=((h'.below (below_alloc _ _))).below hb1;have T1:=((hT.below (below_alloc _ _))).below hb1;have P1:=((blk_new)).below hb1;obtain⟨cP0_1,cP1_1,cP2_1,cP3_1,cP4_1,cP5_1,fP0_1,fP1_1,fP2_1,fP3_1,fP4_1,fP5_1,sP_1⟩:=P1.open6)
        |(go_at_call 88;(with_reducible refine(H1.out _ _ m1 T1).mono ?_);rintro e w2 ⟨rfl,hb2⟩;have B2:=B1.trans (hb2.mono B1.size);have m2:=m1.below hb2;have g2:=g1.below hb2;have T2:=T1.below hb2;have P2:=P1.below hb2;clear m1 g1 T1 P1;clear cP0_1 cP1_1 cP2_1 cP3_1 cP4_1 cP5_1 fP0_1 fP1_1 fP2_1 fP3_1 fP4_1 fP5_1 sP_1;obtain⟨cP0_2,cP1_2,cP2_2,cP3_2,cP4_2,cP5_2,fP0_2,fP1_2,fP2_2,fP3_2,fP4_2,fP5_2,sP_2⟩:=P2.open6)
        |(go_at_call 88;(with_reducible refine(H2.out _ _ g2 T2).mono ?_);rintro e w3 ⟨rfl,hb3⟩;have B3:=B2.trans (hb3.mono B2.size);have m3:=m2.below hb3;have g3:=g2.below hb3;have T3:=T2.below hb3;have P3:=P2.below hb3;clear m2 g2 T2 P2;clear cP0_2 cP1_2 cP2_2 cP3_2 cP4_2 cP5_2 fP0_2 fP1_2 fP2_2 fP3_2 fP4_2 fP5_2 sP_2;obtain⟨cP0_3,cP1_3,cP2_3,cP3_3,cP4_3,cP5_3,fP0_3,fP1_3,fP2_3,fP3_3,fP4_3,fP5_3,sP_3⟩:=P3.open6)
        |(go_at_call 89;(with_reducible refine(S1.out _ _ m3 T3).mono ?_);rintro e w4 ⟨vx4,rfl,x4,hb4⟩;have B4:=B3.trans (hb4.mono B3.size);have m4:=m3.below hb4;have g4:=g3.below hb4;have T4:=T3.below hb4;have P4:=P3.below hb4;clear m3 g3 T3 P3;clear cP0_3 cP1_3 cP2_3 cP3_3 cP4_3 cP5_3 fP0_3 fP1_3 fP2_3 fP3_3 fP4_3 fP5_3 sP_3;obtain⟨cP0_4,cP1_4,cP2_4,cP3_4,cP4_4,cP5_4,fP0_4,fP1_4,fP2_4,fP3_4,fP4_4,fP5_4,sP_4⟩:=P4.open6;obtain⟨ax4,kx4,rfl,-⟩:=x4.view;try simp only[List.length_nil]at x4)
        |(go_at_call 55;(with_reducible refine(T1.out _ _ x4 T4).mono ?_);rintro e w5 ⟨rfl,hb5⟩;have B5:=B4.trans (hb5.mono B4.size);have m5:=m4.below hb5;have g5:=g4.below hb5;have T5:=T4.below hb5;have P5:=P4.below hb5;have x5:=x4.below hb5;clear m4 g4 T4 P4 x4;clear cP0_4 cP1_4 cP2_4 cP3_4 cP4_4 cP5_4 fP0_4 fP1_4 fP2_4 fP3_4 fP4_4 fP5_4 sP_4;obtain⟨cP0_5,cP1_5,cP2_5,cP3_5,cP4_5,cP5_5,fP0_5,fP1_5,fP2_5,fP3_5,fP4_5,fP5_5,sP_5⟩:=P5.open6)
        |(go_at_call 89;(with_reducible refine(S2.out _ _ g5 T5).mono ?_);rintro e w6 ⟨vy6,rfl,y6,hb6⟩;have B6:=B5.trans (hb6.mono B5.size);have m6:=m5.below hb6;have g6:=g5.below hb6;have T6:=T5.below hb6;have P6:=P5.below hb6;have x6:=x5.below hb6;clear m5 g5 T5 P5 x5;clear cP0_5 cP1_5 cP2_5 cP3_5 cP4_5 cP5_5 fP0_5 fP1_5 fP2_5 fP3_5 fP4_5 fP5_5 sP_5;obtain⟨cP0_6,cP1_6,cP2_6,cP3_6,cP4_6,cP5_6,fP0_6,fP1_6,fP2_6,fP3_6,fP4_6,fP5_6,sP_6⟩:=P6.open6;obtain⟨ay6,ky6,rfl,-⟩:=y6.view;try simp only[List.length_nil]at y6)
        |(go_at_call 55;(with_reducible refine(T2.out _ _ y6 T6).mono ?_);rintro e w7 ⟨rfl,hb7⟩;have B7:=B6.trans (hb7.mono B6.size);have m7:=m6.below hb7;have g7:=g6.below hb7;have T7:=T6.below hb7;have P7:=P6.below hb7;have x7:=x6.below hb7;have y7:=y6.below hb7;clear m6 g6 T6 P6 x6 y6;clear cP0_6 cP1_6 cP2_6 cP3_6 cP4_6 cP5_6 fP0_6 fP1_6 fP2_6 fP3_6 fP4_6 fP5_6 sP_6;obtain⟨cP0_7,cP1_7,cP2_7,cP3_7,cP4_7,cP5_7,fP0_7,fP1_7,fP2_7,fP3_7,fP4_7,fP5_7,sP_7⟩:=P7.open6)
        |fail)
     go_ret3
     exact⟨0,0,false,rfl,rfl,by assumption⟩
   ·have dx:((x1:Int)==(x2:Int))=false:=beq_false_of_ne (by omega)
    have dx':(x1==x2)=false:=beq_false_of_ne cx
    obtain rfl:z=(false,0,0):=hz.symm.trans (if_neg (fun h=>cx (congrArg Prod.fst h.2.2)))
    clear hz
    go_enter Tryz.func58,Tryz.ntmps58
    go_wp2_with
     (first
       |(go_at_call 87;(with_reducible refine(HR.out _ _ _ (h.below (below_alloc _ _)) (h'.below (below_alloc _ _)) (hT.below (below_alloc _ _))).mono ?_);rintro e w1 ⟨rfl,hb1⟩;have B1:=(below_alloc _ _).trans (hb1.mono (below_alloc _ _).size);have m1:=((h.below (below_alloc _ _))).below hb1;have g1:=((h'.below (below_alloc _ _))).below hb1;have T1:=((hT.below (below_alloc _ _))).below hb1;have P1:=((blk_new)).below hb1;obtain⟨cP0_1,cP1_1,cP2_1,cP3_1,cP4_1,cP5_1,fP0_1,fP1_1,fP2_1,fP3_1,fP4_1,fP5_1,sP_1⟩:=P1.open6)
       |(go_at_call 88;(with_reducible refine(H1.out _ _ m1 T1).mono ?_);rintro e w2 ⟨rfl,hb2⟩;have B2:=B1.trans (hb2.mono B1.size);have m2:=m1.below hb2;have g2:=g1.below hb2;have T2:=T1.below hb2;have P2:=P1.below hb2;clear m1 g1 T1 P1;clear cP0_1 cP1_1 cP2_1 cP3_1 cP4_1 cP5_1 fP0_1 fP1_1 fP2_1 fP3_1 fP4_1 fP5_1 sP_1;obtain⟨cP0_2,cP1_2,cP2_2,cP3_2,cP4_2,cP5_2,fP0_2,fP1_2,fP2_2,fP3_2,fP4_2,fP5_2,sP_2⟩:=P2.open6)
       |(go_at_call 88;(with_reducible refine(H2.out _ _ g2 T2).mono ?_);rintro e w3 ⟨rfl,hb3⟩;have B3:=B2.trans (hb3.mono B2.size);have m3:=m2.below hb3;have g3:=g2.below hb3;have T3:=T2.below hb3;have P3:=P2.below hb3;clear m2 g2 T2 P2;clear cP0_2 cP1_2 cP2_2 cP3_2 cP4_2 cP5_2 fP0_2 fP1_2 fP2_2 fP3_2 fP4_2 fP5_2 sP_2;obtain⟨cP0_3,cP1_3,cP2_3,cP3_3,cP4_3,cP5_3,fP0_3,fP1_3,fP2_3,fP3_3,fP4_3,fP5_3,sP_3⟩:=P3.open6)
       |(go_at_call 89;(with_reducible refine(S1.out _ _ m3 T3).mono ?_);rintro e w4 ⟨vx4,rfl,x4,hb4⟩;have B4:=B3.trans (hb4.mono B3.size);have m4:=m3.below hb4;have g4:=g3.below hb4;have T4:=T3.below hb4;have P4:=P3.below hb4;clear m3 g3 T3 P3;clear cP0_3 cP1_3 cP2_3 cP3_3 cP4_3 cP5_3 fP0_3 fP1_3 fP2_3 fP3_3 fP4_3 fP5_3 sP_3;obtain⟨cP0_4,cP1_4,cP2_4,cP3_4,cP4_4,cP5_4,fP0_4,fP1_4,fP2_4,fP3_4,fP4_4,fP5_4,sP_4⟩:=P4.open6;obtain⟨ax4,kx4,rfl,-⟩:=x4.view;try simp only[List.length_nil]at x4)
       |(go_at_call 55;(with_reducible refine(T1.out _ _ x4 T4).mono ?_);rintro e w5 ⟨rfl,hb5⟩;have B5:=B4.trans (hb5.mono B4.size);have m5:=m4.below hb5;have g5:=g4.below hb5;have T5:=T4.below hb5;have P5:=P4.below hb5;have x5:=x4.below hb5;clear m4 g4 T4 P4 x4;clear cP0_4 cP1_4 cP2_4 cP3_4 cP4_4 cP5_4 fP0_4 fP1_4 fP2_4 fP3_4 fP4_4 fP5_4 sP_4;obtain⟨cP0_5,cP1_5,cP2_5,cP3_5,cP4_5,cP5_5,fP0_5,fP1_5,fP2_5,fP3_5,fP4_5,fP5_5,sP_5⟩:=P5.open6)
       |(go_at_call 89;(with_reducible refine(S2.out _ _ g5 T5).mono ?_);rintro e w6 ⟨vy6,rfl,y6,hb6⟩;have B6:=B5.trans (hb6.mono B5.size);have m6:=m5.below hb6;have g6:=g5.below hb6;have T6:=T5.below hb6;have P6:=P5.below hb6;have x6:=x5.below hb6;clear m5 g5 T5 P5 x5;clear cP0_5 cP1_5 cP2_5 cP3_5 cP4_5 cP5_5 fP0_5 fP1_5 fP2_5 fP3_5 fP4_5 fP5_5 sP_5;obtain⟨cP0_6,cP1_6,cP2_6,cP3_6,cP4_6,cP5_6,fP0_6,fP1_6,fP2_6,fP3_6,fP4_6,fP5_6,sP_6⟩:=P6.open6;obtain⟨ay6,ky6,rfl,-⟩:=y6.view;try simp only[List.length_nil]at y6)
       |(go_at_call 55;(with_reducible refine(T2.out _ _ y6 T6).mono ?_);rintro e w7 ⟨rfl,hb7⟩;have B7:=B6.trans (hb7.mono B6.size);have m7:=m6.below hb7;have g7:=g6.below hb7;have T7:=T6.below hb7;have P7:=P6.below hb7;have x7:=x6.below hb7;have y7:=y6.below hb7;clear m6 g6 T6 P6 x6 y6;clear cP0_6 cP1_6 cP2_6 cP3_6 cP4_6 cP5_6 fP0_6 fP1_6 fP2_6 fP3_6 fP4_6 fP5_6 sP_6;obtain⟨cP0_7,cP1_7,cP2_7,cP3_7,cP4_7,cP5_7,fP0_7,fP1_7,fP2_7,fP3_7,fP4_7,fP5_7,sP_7⟩:=P7.open6)
       |fail)
    go_ret3
    exact⟨0,0,false,rfl,rfl,by assumption⟩
  ·obtain rfl:z=(false,0,0):=hz.symm.trans (if_neg (fun h=>by cases h.2.1))
   clear hz
   go_enter Tryz.func58,Tryz.ntmps58
   go_wp2_with
    (first
      |(go_at_call 87;(with_reducible refine(HR.out _ _ _ (h.below (below_alloc _ _)) (h'.below (below_alloc _ _)) (hT.below (below_alloc _ _))).mono ?_);rintro e w1 ⟨rfl,hb1⟩;have B1:=(below_alloc _ _).trans (hb1.mono (below_alloc _ _).size);have m1:=((h.below (below_alloc _ _))).below hb1;have g1:=((h'.below (below_alloc _ _))).below hb1;have T1:=((hT.below (below_alloc _ _))).below hb1;have P1:=((blk_new)).below hb1;obtain⟨cP0_1,cP1_1,cP2_1,cP3_1,cP4_1,cP5_1,fP0_1,fP1_1,fP2_1,fP3_1,fP4_1,fP5_1,sP_1⟩:=P1.open6)
      |(go_at_call 88;(with_reducible refine(H1.out _ _ m1 T1).mono ?_);rintro e w2 ⟨rfl,hb2⟩;have B2:=B1.trans (hb2.mono B1.size);have m2:=m1.below hb2;have g2:=g1.below hb2;have T2:=T1.below hb2;have P2:=P1.below hb2;clear m1 g1 T1 P1;clear cP0_1 cP1_1 cP2_1 cP3_1 cP4_1 cP5_1 fP0_1 fP1_1 fP2_1 fP3_1 fP4_1 fP5_1 sP_1;obtain⟨cP0_2,cP1_2,cP2_2,cP3_2,cP4_2,cP5_2,fP0_2,fP1_2,fP2_2,fP3_2,fP4_2,fP5_2,sP_2⟩:=P2.open6)
      |(go_at_call 88;(with_reducible refine(H2.out _ _ g2 T2).mono ?_);rintro e w3 ⟨rfl,hb3⟩;have B3:=B2.trans (hb3.mono B2.size);have m3:=m2.below hb3;have g3:=g2.below hb3;have T3:=T2.below hb3;have P3:=P2.below hb3;clear m2 g2 T2 P2;clear cP0_2 cP1_2 cP2_2 cP3_2 cP4_2 cP5_2 fP0_2 fP1_2 fP2_2 fP3_2 fP4_2 fP5_2 sP_2;obtain⟨cP0_3,cP1_3,cP2_3,cP3_3,cP4_3,cP5_3,fP0_3,fP1_3,fP2_3,fP3_3,fP4_3,fP5_3,sP_3⟩:=P3.open6)
      |fail)
   go_ret3
   exact⟨0,0,false,rfl,rfl,by assumption⟩
 ·obtain rfl:z=(false,0,0):=hz.symm.trans (if_neg (fun h=>by cases h.1))
  clear hz
  go_enter Tryz.func58,Tryz.ntmps58
  go_wp2_with
   (first
     |(go_at_call 87;(with_reducible refine(HR.out _ _ _ (h.below (below_alloc _ _)) (h'.below (below_alloc _ _)) (hT.below (below_alloc _ _))).mono ?_);rintro e w1 ⟨rfl,hb1⟩;have B1:=(below_alloc _ _).trans (hb1.mono (below_alloc _ _).size);have m1:=((h.below (below_alloc _ _))).below hb1;have g1:=((h'.below (below_alloc _ _))).below hb1;have T1:=((hT.below (below_alloc _ _))).below hb1;have P1:=((blk_new)).below hb1;obtain⟨cP0_1,cP1_1,cP2_1,cP3_1,cP4_1,cP5_1,fP0_1,fP1_1,fP2_1,fP3_1,fP4_1,fP5_1,sP_1⟩:=P1.open6)
     |(go_at_call 88;(with_reducible refine(H1.out _ _ m1 T1).mono ?_);rintro e w2 ⟨rfl,hb2⟩;have B2:=B1.trans (hb2.mono B1.size);have m2:=m1.below hb2;have g2:=g1.below hb2;have T2:=T1.below hb2;have P2:=P1.below hb2;clear m1 g1 T1 P1;clear cP0_1 cP1_1 cP2_1 cP3_1 cP4_1 cP5_1 fP0_1 fP1_1 fP2_1 fP3_1 fP4_1 fP5_1 sP_1;obtain⟨cP0_2,cP1_2,cP2_2,cP3_2,cP4_2,cP5_2,fP0_2,fP1_2,fP2_2,fP3_2,fP4_2,fP5_2,sP_2⟩:=P2.open6)
     |fail)
  go_ret3
  exact⟨0,0,false,rfl,rfl,by assumption⟩
set_option maxHeartbeats 1000000 in
theorem dloose_no {w:World}{v u:Value}{n1 n2 neg:Bool}{M1 M2:Nat}{E1 E2 dir:Int}(h:RdN w v (digs BB M1)) (h':RdN w u (digs BB M2)) (hT:Tab w) (q1:bareD ⟨n1,M1,E1⟩=⟨n1,M1,E1⟩) (q2:bareD ⟨n2,M2,E2⟩=⟨n2,M2,E2⟩) (f1:fitsE E1=true) (f2:fitsE E2=true) (s1:bitN M1≤400000) (s2:bitN M2≤400000)
 (hr:(decide (cmpD ⟨n1,M1,E1⟩ ⟨n2,M2,E2⟩≤0)&&decide (0<signD ⟨n1,M1,E1⟩))=false) (d0:0≤dir) (d3:dir≤3):
 Calls Tryz.prog 59 #[.agg #[.bool n1,v,.int .i64 E1,.bool n2,u,.int .i64 E2],.bool neg,.int .i64 dir] w (fun e w'=>e= .returned (.tuple #[L64 0,.int .u8 0,.bool false])∧Below w.heap.size w w'):=by
 obtain⟨av,kv,rfl,-,-,-,-⟩:=h.view
 obtain⟨au,ku,rfl,-,-,-,-⟩:=h'.view
 have HR:=Lib.hid (fun w v u (h:RdN w v (digs BB M1)) (k:RdN w u (digs BB M2)) (hT:Tab w)=>dright_n h k hT q1 q2 f1 f2 s1 s2 rfl rfl d0 d3)
 rw[hr]at HR
 clear q1 q2 f1 f2 s1 s2 hr d0 d3
 go_enter Tryz.func59,Tryz.ntmps59
 go_wp2_with
  (first
    |(go_at_call 87;(with_reducible refine(HR.out _ _ _ (h.below (below_alloc _ _)) (h'.below (below_alloc _ _)) (hT.below (below_alloc _ _))).mono ?_);rintro e w1 ⟨rfl,hb1⟩;have B1:=(below_alloc _ _).trans (hb1.mono (below_alloc _ _).size);have m1:=((h.below (below_alloc _ _))).below hb1;have g1:=((h'.below (below_alloc _ _))).below hb1;have T1:=((hT.below (below_alloc _ _))).below hb1;have P1:=((blk_new)).below hb1;obtain⟨cP0_1,cP1_1,cP2_1,cP3_1,cP4_1,cP5_1,fP0_1,fP1_1,fP2_1,fP3_1,fP4_1,fP5_1,sP_1⟩:=P1.open6)
    |fail)
 go_ret3
 exact⟨rfl,by assumption⟩
set_option maxHeartbeats 1000000 in
theorem dloose_n {w:World}{v u:Value}{neg:Bool}{M1 M2:Nat}{E1 E2 dir:Int}(h:RdN w v (digs BB M1)) (h':RdN w u (digs BB M2)) (hT:Tab w) (q1:bareD ⟨false,M1,E1⟩=⟨false,M1,E1⟩) (q2:bareD ⟨false,M2,E2⟩=⟨false,M2,E2⟩) (f1:fitsE E1=true) (f2:fitsE E2=true) (s1:bitN M1≤50000) (s2:bitN M2≤50000) (z1:M1≠0) (z2:M2≠0)
 (hr:(decide (cmpD ⟨false,M1,E1⟩ ⟨false,M2,E2⟩≤0)&&decide (0<signD ⟨false,M1,E1⟩))=true) (d0:0≤dir) (d3:dir≤3):
 Calls Tryz.prog 59 #[.agg #[.bool false,v,.int .i64 E1,.bool false,u,.int .i64 E2],.bool neg,.int .i64 dir] w (fun e w'=>∃(b:Nat) (f:Int),e= .returned (.tuple #[L64 b,.int .u8 f,.bool true])∧(b,f)=(if downB neg dir then toB neg M2 E2 true dir else toB neg M1 E1 true dir)∧Below w.heap.size w w'):=by
 obtain⟨av,kv,rfl,-,-,-,-⟩:=h.view
 obtain⟨au,ku,rfl,-,-,-,-⟩:=h'.view
 have r1: -1073741824≤E1∧E1≤1073741824:=by unfold fitsE at f1;simp at f1;exact f1
 have r2: -1073741824≤E2∧E2≤1073741824:=by unfold fitsE at f2;simp at f2;exact f2
 obtain⟨r1,r1'⟩:=r1
 obtain⟨r2,r2'⟩:=r2
 have HR:=Lib.hid (fun w v u (h:RdN w v (digs BB M1)) (k:RdN w u (digs BB M2)) (hT:Tab w)=>dright_n h k hT q1 q2 f1 f2 (by omega) (by omega) rfl rfl d0 d3)
 rw[hr]at HR
 have S1:=Lib.hid (fun w v (h:RdN w v (digs BB M1)) (hT:Tab w)=>dsigned_n (s:=neg) h hT q1 f1 z1 (by omega))
 have S2:=Lib.hid (fun w v (h:RdN w v (digs BB M2)) (hT:Tab w)=>dsigned_n (s:=neg) h hT q2 f2 z2 (by omega))
 have p1:bareD ⟨neg,M1,E1⟩=⟨neg,M1,E1⟩:=bareD_odd' (bareD_oddM q1 z1) (by omega) (by omega)
 have p2:bareD ⟨neg,M2,E2⟩=⟨neg,M2,E2⟩:=bareD_odd' (bareD_oddM q2 z2) (by omega) (by omega)
 have T1:=Lib.hid (fun w v (h:RdN w v (digs BB M1)) (hT:Tab w)=>To_any (more:=true) (h.num (by omega)) hT (by omega) (by omega) p1 f1 d0 d3 z1 s1)
 have T2:=Lib.hid (fun w v (h:RdN w v (digs BB M2)) (hT:Tab w)=>To_any (more:=true) (h.num (by omega)) hT (by omega) (by omega) p2 f2 d0 d3 z2 s2)
 have HD:=Lib.hid (fun w=>ddown_n (w:=w) (neg:=neg) d0 d3)
 obtain⟨⟨x1,g1⟩,e1⟩:∃p,toB neg M1 E1 true dir=p:=⟨_,rfl⟩
 obtain⟨⟨x2,g2⟩,e2⟩:∃p,toB neg M2 E2 true dir=p:=⟨_,rfl⟩
 obtain⟨dn,hdn⟩:∃p,downB neg dir=p:=⟨_,rfl⟩
 rw[e1]at T1
 rw[e2]at T2
 rw[hdn]at HD
 rw[e1,e2,hdn]
 clear q1 q2 f1 f2 p1 p2 r1 r1' r2 r2' s1 s2 hr d0 d3 e1 e2 z1 z2 hdn
 cases dn
 ·go_enter Tryz.func59,Tryz.ntmps59
  go_wp2_with
   (first
     |(go_at_call 87;(with_reducible refine(HR.out _ _ _ (h.below (below_alloc _ _)) (h'.below (below_alloc _ _)) (hT.below (below_alloc _ _))).mono ?_);rintro e w1 ⟨rfl,hb1⟩;have B1:=(below_alloc _ _).trans (hb1.mono (below_alloc _ _).size);have m1:=((h.below (below_alloc _ _))).below hb1;have g1:=((h'.below (below_alloc _ _))).below hb1;have T1:=((hT.below (below_alloc _ _))).below hb1;have P1:=((blk_new)).below hb1;obtain⟨cP0_1,cP1_1,cP2_1,cP3_1,cP4_1,cP5_1,fP0_1,fP1_1,fP2_1,fP3_1,fP4_1,fP5_1,sP_1⟩:=P1.open6)
     |(go_at_call 90;(with_reducible refine(HD.out _).mono ?_);rintro e w2 ⟨rfl,rfl⟩)
     |(go_at_call 89;(with_reducible refine(S1.out _ _ (m1.below (below_alloc _ _)) (T1.below (below_alloc _ _))).mono ?_);rintro e w3 ⟨vx3,rfl,x3,hb3⟩;have hb3':=(below_a hb3);have B3:=B1.trans (hb3'.mono B1.size);have m3:=m1.below hb3';have g3:=g1.below hb3';have T3:=T1.below hb3';have P3:=P1.below hb3';clear m1 g1 T1 P1;have Q3:=blk_new.below hb3;obtain⟨cP0_3,cP1_3,cP2_3,cP3_3,cP4_3,cP5_3,fP0_3,fP1_3,fP2_3,fP3_3,fP4_3,fP5_3,sP_3⟩:=P3.open6;obtain⟨cQ0_3,cQ1_3,cQ2_3,fQ0_3,fQ1_3,fQ2_3,sQ_3⟩:=Q3.open3;obtain⟨ax3,kx3,rfl,-⟩:=x3.view;try simp only[List.length_nil]at x3)
     |(go_at_call 55;(with_reducible refine(T1.out _ _ x3 T3).mono ?_);rintro e w4 ⟨rfl,hb4⟩;have B4:=B3.trans (hb4.mono B3.size);have m4:=m3.below hb4;have g4:=g3.below hb4;have T4:=T3.below hb4;have P4:=P3.below hb4;have Q4:=Q3.below hb4;have x4:=x3.below hb4;clear m3 g3 T3 P3 Q3 x3;clear cP0_3 cP1_3 cP2_3 cP3_3 cP4_3 cP5_3 fP0_3 fP1_3 fP2_3 fP3_3 fP4_3 fP5_3 sP_3;obtain⟨cP0_4,cP1_4,cP2_4,cP3_4,cP4_4,cP5_4,fP0_4,fP1_4,fP2_4,fP3_4,fP4_4,fP5_4,sP_4⟩:=P4.open6;clear cQ0_3 cQ1_3 cQ2_3 fQ0_3 fQ1_3 fQ2_3 sQ_3;obtain⟨cQ0_4,cQ1_4,cQ2_4,fQ0_4,fQ1_4,fQ2_4,sQ_4⟩:=Q4.open3)
     |fail)
  go_ret3
  exact⟨x1,g1,rfl,by simp,by assumption⟩
 ·go_enter Tryz.func59,Tryz.ntmps59
  go_wp2_with
   (first
     |(go_at_call 87;(with_reducible refine(HR.out _ _ _ (h.below (below_alloc _ _)) (h'.below (below_alloc _ _)) (hT.below (below_alloc _ _))).mono ?_);rintro e w1 ⟨rfl,hb1⟩;have B1:=(below_alloc _ _).trans (hb1.mono (below_alloc _ _).size);have m1:=((h.below (below_alloc _ _))).below hb1;have g1:=((h'.below (below_alloc _ _))).below hb1;have T1:=((hT.below (below_alloc _ _))).below hb1;have P1:=((blk_new)).below hb1;obtain⟨cP0_1,cP1_1,cP2_1,cP3_1,cP4_1,cP5_1,fP0_1,fP1_1,fP2_1,fP3_1,fP4_1,fP5_1,sP_1⟩:=P1.open6)
     |(go_at_call 90;(with_reducible refine(HD.out _).mono ?_);rintro e w2 ⟨rfl,rfl⟩)
     |(go_at_call 89;(with_reducible refine(S2.out _ _ (g1.below (below_alloc _ _)) (T1.below (below_alloc _ _))).mono ?_);rintro e w3 ⟨vy3,rfl,y3,hb3⟩;have hb3':=(below_a hb3);have B3:=B1.trans (hb3'.mono B1.size);have m3:=m1.below hb3';have g3:=g1.below hb3';have T3:=T1.below hb3';have P3:=P1.below hb3';clear m1 g1 T1 P1;have Q3:=blk_new.below hb3;obtain⟨cP0_3,cP1_3,cP2_3,cP3_3,cP4_3,cP5_3,fP0_3,fP1_3,fP2_3,fP3_3,fP4_3,fP5_3,sP_3⟩:=P3.open6;obtain⟨cQ0_3,cQ1_3,cQ2_3,fQ0_3,fQ1_3,fQ2_3,sQ_3⟩:=Q3.open3;obtain⟨ay3,ky3,rfl,-⟩:=y3.view;try simp only[List.length_nil]at y3)
     |(go_at_call 55;(with_reducible refine(T2.out _ _ y3 T3).mono ?_);rintro e w4 ⟨rfl,hb4⟩;have B4:=B3.trans (hb4.mono B3.size);have m4:=m3.below hb4;have g4:=g3.below hb4;have T4:=T3.below hb4;have P4:=P3.below hb4;have Q4:=Q3.below hb4;have y4:=y3.below hb4;clear m3 g3 T3 P3 Q3 y3;clear cP0_3 cP1_3 cP2_3 cP3_3 cP4_3 cP5_3 fP0_3 fP1_3 fP2_3 fP3_3 fP4_3 fP5_3 sP_3;obtain⟨cP0_4,cP1_4,cP2_4,cP3_4,cP4_4,cP5_4,fP0_4,fP1_4,fP2_4,fP3_4,fP4_4,fP5_4,sP_4⟩:=P4.open6;clear cQ0_3 cQ1_3 cQ2_3 fQ0_3 fQ1_3 fQ2_3 sQ_3;obtain⟨cQ0_4,cQ1_4,cQ2_4,fQ0_4,fQ1_4,fQ2_4,sQ_4⟩:=Q4.open3)
     |fail)
  go_ret3
  exact⟨x2,g2,rfl,by simp,by assumption⟩
def hrB (lo hi:Dn):Bool:=decide (cmpD lo hi≤0)&&decide (0<signD lo)
theorem qv_above {d:Dn}(h:0<qv d):d.neg=false∧d.m≠0:=by
 obtain⟨n,m,e⟩:=d
 dsimp only
 have hm:m≠0:=fun h0=>by rw[qv_zero (d:=⟨n,m,e⟩) h0]at h;exact absurd h (by decide)
 refine⟨?_,hm⟩
 cases n
 ·rfl
 ·rw[qv_neg]at h
  have h1:0<(m:Rat)*pw e:=Rat.mul_pos (Rat.natCast_pos.2 (Nat.pos_of_ne_zero hm)) (pw_pos e)
  exfalso;grind
theorem hr_vals {lo hi:Dn}(h:hrB lo hi=true):0<qv lo∧qv lo≤qv hi:=by
 unfold hrB at h
 rw[Bool.and_eq_true]at h
 have h1:=of_decide_eq_true h.1
 have h2:=of_decide_eq_true h.2
 constructor
 ·rcases signD_val lo with⟨a,b⟩|⟨a,b⟩|⟨a,b⟩
  ·omega
  ·omega
  ·exact a
 ·rcases cmpD_val lo hi with⟨a,b⟩|⟨a,b⟩|⟨a,b⟩
  ·grind
  ·grind
  ·omega
theorem hr_of {lo hi:Dn}(h1:0<qv lo) (h2:qv lo≤qv hi):hrB lo hi=true:=by
 unfold hrB
 rw[Bool.and_eq_true]
 refine⟨decide_eq_true (cmpD_le h2),decide_eq_true ?_⟩
 rcases signD_val lo with⟨a,b⟩|⟨a,b⟩|⟨a,b⟩
 ·exfalso;grind
 ·exfalso;grind
 ·omega
theorem hr_pos {lo hi:Dn}(h:hrB lo hi=true):lo.neg=false∧hi.neg=false∧lo.m≠0∧hi.m≠0:=by
 obtain⟨h1,h2⟩:=hr_vals h
 obtain⟨a,b⟩:=qv_above h1
 obtain⟨c,d⟩:=qv_above (show 0<qv hi by grind)
 exact⟨a,c,b,d⟩
structure BareI (lo hi:Dn):Prop where
 q1:bareD lo=lo
 q2:bareD hi=hi
 t1:fitsE lo.e=true
 t2:fitsE hi.e=true
 s1:bitN lo.m≤50000
 s2:bitN hi.m≤50000
def decG (neg:Bool) (lo hi:Dn) (dir:Int):Bool×Nat×Int:=if hrB lo hi then decB neg lo.m lo.e hi.m hi.e dir else(false,0,0)
def looseG (neg:Bool) (lo hi:Dn) (dir:Int):Bool×Nat×Int:=
 if hrB lo hi then(true,if downB neg dir then toB neg hi.m hi.e true dir else toB neg lo.m lo.e true dir)else(false,0,0)
theorem dround_g {w:World}{v u:Value}{n1 n2 neg:Bool}{M1 M2:Nat}{E1 E2 dir:Int}(h:RdN w v (digs BB M1)) (h':RdN w u (digs BB M2)) (hT:Tab w) (B:BareI ⟨n1,M1,E1⟩ ⟨n2,M2,E2⟩) (d0:0≤dir) (d3:dir≤3):
 Calls Tryz.prog 58 #[.agg #[.bool n1,v,.int .i64 E1,.bool n2,u,.int .i64 E2],.bool neg,.int .i64 dir] w (fun e w'=>∃(b:Nat) (f:Int) (ok:Bool),e= .returned (.tuple #[L64 b,.int .u8 f,.bool ok])∧decG neg ⟨n1,M1,E1⟩ ⟨n2,M2,E2⟩ dir=(ok,b,f)∧Below w.heap.size w w'):=by
 unfold decG
 obtain⟨r,hr⟩:∃r,hrB ⟨n1,M1,E1⟩ ⟨n2,M2,E2⟩=r:=⟨_,rfl⟩
 rw[hr]
 have s1:=B.s1;have s2:=B.s2
 dsimp only at s1 s2
 cases r
 ·refine(dround_no h h' hT B.q1 B.q2 B.t1 B.t2 (by omega) (by omega) hr d0 d3).mono ?_
  rintro e w' ⟨rfl,hb⟩
  exact⟨0,0,false,rfl,if_neg (by decide),hb⟩
 ·obtain⟨a1,a2,a3,a4⟩:=hr_pos hr
  dsimp only at a1 a2 a3 a4
  subst a1 a2
  refine(dround_n (neg:=neg) h h' hT B.q1 B.q2 B.t1 B.t2 s1 s2 a3 a4 hr d0 d3).mono ?_
  rintro e w' ⟨b,f,ok,rfl,he,hb⟩
  exact⟨b,f,ok,rfl,(if_pos rfl).trans he,hb⟩
theorem dloose_g {w:World}{v u:Value}{n1 n2 neg:Bool}{M1 M2:Nat}{E1 E2 dir:Int}(h:RdN w v (digs BB M1)) (h':RdN w u (digs BB M2)) (hT:Tab w) (B:BareI ⟨n1,M1,E1⟩ ⟨n2,M2,E2⟩) (d0:0≤dir) (d3:dir≤3):
 Calls Tryz.prog 59 #[.agg #[.bool n1,v,.int .i64 E1,.bool n2,u,.int .i64 E2],.bool neg,.int .i64 dir] w (fun e w'=>∃(b:Nat) (f:Int) (ok:Bool),e= .returned (.tuple #[L64 b,.int .u8 f,.bool ok])∧looseG neg ⟨n1,M1,E1⟩ ⟨n2,M2,E2⟩ dir=(ok,b,f)∧Below w.heap.size w w'):=by
 unfold looseG
 obtain⟨r,hr⟩:∃r,hrB ⟨n1,M1,E1⟩ ⟨n2,M2,E2⟩=r:=⟨_,rfl⟩
 rw[hr]
 have s1:=B.s1;have s2:=B.s2
 dsimp only at s1 s2
 cases r
 ·refine(dloose_no h h' hT B.q1 B.q2 B.t1 B.t2 (by omega) (by omega) hr d0 d3).mono ?_
  rintro e w' ⟨rfl,hb⟩
  exact⟨0,0,false,rfl,if_neg (by decide),hb⟩
 ·obtain⟨a1,a2,a3,a4⟩:=hr_pos hr
  dsimp only at a1 a2 a3 a4
  subst a1 a2
  refine(dloose_n (neg:=neg) h h' hT B.q1 B.q2 B.t1 B.t2 s1 s2 a3 a4 hr d0 d3).mono ?_
  rintro e w' ⟨b,f,rfl,he,hb⟩
  exact⟨b,f,true,rfl,(if_pos rfl).trans (by rw[←he]),hb⟩
theorem eat_n {w:World}{n:Bool}{a:Option Addr}{l k:Nat}{e:Int}:Calls Tryz.prog 28 #[.agg #[.bool n,.slice a l k,.int .i64 e]] w (fun r w'=>r= .returned (.agg #[.bool n,.slice a l k,.int .i64 e,.bool n,.slice a l k,.int .i64 e])∧Below w.heap.size w w'):=by
 go_enter Tryz.func28,Tryz.ntmps28
 go_wp2
 obtain⟨z0,z1,z2,z3,z4,z5,-⟩:=(blk_a2 (w:=w) (T:=70) (o:= .cells #[.bool n,.slice a l k,.int .i64 e] 63 (0,0)) (c:= #[.bool n,.slice a l k,.int .i64 e,.bool n,.slice a l k,.int .i64 e])).open6
 refine bodyPost_ret (v:= .agg #[.bool n,.slice a l k,.int .i64 e,.bool n,.slice a l k,.int .i64 e]) (by simp[results,Tryz.results28,go_sem,z0,z1,z2,z3,z4,z5]) rfl ⟨rfl,below_2⟩
theorem eis_n {w:World}{b:Nat}:Calls Tryz.prog 25 #[L64 b] w (fun r w'=>r= .returned (.tuple #[.agg #[L64 b,.int .u8 0,.int .i64 0],.int .i64 0,.int .i64 0])∧Below w.heap.size w w'):=by
 go_enter Tryz.func25,Tryz.ntmps25
 go_wp2
 obtain⟨z0,z1,z2,-⟩:=(blk_new (w:=w) (T:=38) (c:= #[.int .u64 (b:Int),.int .u8 0,.int .i64 0])).open3
 refine bodyPost_ret (v:= .tuple #[.agg #[L64 b,.int .u8 0,.int .i64 0],.int .i64 0,.int .i64 0]) (by simp[results,Tryz.results25,go_sem,z0,z1,z2]) rfl ⟨rfl,below_alloc _ _⟩
end Go.Proofs.YtffaefjkpipjnaaGreatDoor
