/- dyad.Of of -746; dyad.Minus of what can be told. Conditions: math/bits' table stands in its variable. -/
import Derived.Test.YtffaefjkpipjnaaGreatDoorPkC16
import Derived.BigQuiet
import Derived.Test.YtffaefjkpipjnaaGreatDoorPkC19
import Derived.Test.YtffaefjkpipjnaaGreatDoorPkC15
import Derived.Test.YtffaefjkpipjnaaGreatDoorPkC05
import Derived.Test.YtffaefjkpipjnaaGreatDoorPkC13
import Derived.Test.YtffaefjkpipjnaaGreatDoorPkC12
import Derived.Test.YtffaefjkpipjnaaGreatDoorPkC22
import Derived.Test.YtffaefjkpipjnaaGreatDoorPkC24
namespace Go.Proofs.YtffaefjkpipjnaaGreatDoor
set_option maxRecDepth 100000
open Go.RowKit Go.ChangeShapes Go.WideShapes
theorem bare746:bareD ⟨true,746,0⟩=⟨true,373,1⟩:=rfl
theorem rd_lit746 {w:World}{o:Obj}{T:TypeId}{fz:Nat×Nat}:RdN ((w.alloc o).alloc (.cells #[.int .u64 746] T fz)) (.slice (some ⟨w.heap.size+1,0,none⟩) 1 1) [746]:=rd_lit2 (n:=746)
theorem of746 {w:World}(hT:Tab w):Calls Tryz.prog 51 #[.int .i64 (-746)] w (fun e w'=>∃v,e= .returned (.agg #[.bool true,v,.int .i64 1])∧RdN w' v (digs BB 373)∧Below w.heap.size w w'):=by
 have hX:=Lib.hid (fun w v (h:RdN w v [746]) (hT:Tab w)=>bare_d (neg:=true) (E:=0) (h.num1 (by decide)) hT (by decide) (by decide) bare746)
 have hw:IntKind.u64.wrap (-IntKind.u64.wrap (-746))=746:=by rw[IntKind.wrap_u64,IntKind.wrap_u64];decide
 go_enter Tryz.func51,Tryz.ntmps51
 go_wp2_with
  (first
    |(go_at_call 80;(with_reducible refine(hX.out _ _ (rd_lit746) (hT.below below_2)).mono ?_);rintro e w1 ⟨vd1,rfl,d1,hb1⟩;have B1:=below_2.trans (hb1.mono below_2.size);have m1:=((rd_lit746)).below hb1;have T1:=((hT.below below_2)).below hb1;have R1:=((blk_a1)).below hb1;obtain⟨cR0_1,cR1_1,cR2_1,fR0_1,fR1_1,fR2_1,sR_1⟩:=R1.open3;obtain⟨ud1,rfl,d1⟩:=d1;obtain⟨ad1,kd1,rfl,-⟩:=d1.view)
    |fail)
 obtain⟨q0,q1,q2,-⟩:=(R1.set3 (.bool true) (.slice ad1 (digs BB 373).length kd1) (.int .i64 1)).open3
 refine bodyPost_ret (v:= .agg #[.bool true,.slice ad1 (digs BB 373).length kd1,.int .i64 1]) ?_ rfl ?_
 ·simp[results,Tryz.results51,go_sem,q0,q1,q2]
 ·exact⟨_,rfl,d1.set3 R1 dcells _ _ _,below_set3 B1 (Nat.le_refl _) _ _ _⟩
set_option maxHeartbeats 1000000 in
theorem Minus_ok {w:World}{v:Value}{neg n':Bool}{M M':Nat}{E E':Int}(h:Num w v M) (hT:Tab w) (h1: -9223372036854775808≤E) (h2:E≤9223372036854775807) (e:bareD ⟨neg,M,E⟩=⟨n',M',E'⟩) (hf:fitsE E'=true) (o:M'%2=1) (sM:bitN M'≤2560000):
 Calls Tryz.prog 52 #[.agg #[.bool neg,v,.int .i64 E]] w (fun e w'=>∃v,e= .returned (.agg #[.bool (!n'),v,.int .i64 E'])∧RdN w' v (digs BB M')∧Below w.heap.size w w'):=by
 obtain⟨a,n,k,rfl⟩:=h.slice
 have rF: -1073741824≤E'∧E'≤1073741824:=by unfold fitsE at hf;simp at hf;exact hf
 have h0:M'≠0:=by omega
 have hsn:digs BB M'≠[]:=fun e=>h0 ((digs_nil_iff BB_two _).1 e)
 have hsi:((digs BB M').length:Int)≠0:=by have:=List.length_pos_iff.2 hsn;omega
 have HB:=Lib.hid (fun w v (h:Num w v M) (hT:Tab w)=>bare_d h hT h1 h2 e)
 have BA:=Lib.hid (fun w v (h:RdN w v (digs BB M')) (hT:Tab w)=>Bare_ok (h.num sM) hT (by omega) (by omega) (bareD_odd' (neg:=!n') (E:=E') o (by omega) (by omega)) hf)
 clear e hf rF o sM hsn h0
 go_enter Tryz.func52,Tryz.ntmps52
 go_wp2_with
  (first
    |(go_at_call 80;(with_reducible refine(HB.out _ _ (h.below below_2) (hT.below below_2)).mono ?_);rintro e w1 ⟨vx1,rfl,x1,hb1⟩;have B1:=below_2.trans (hb1.mono below_2.size);have m1:=((h.below below_2)).below hb1;have T1:=((hT.below below_2)).below hb1;have P1:=((blk_a1)).below hb1;have R1:=((blk_a2)).below hb1;obtain⟨cP0_1,cP1_1,cP2_1,fP0_1,fP1_1,fP2_1,sP_1⟩:=P1.open3;obtain⟨cR0_1,cR1_1,cR2_1,fR0_1,fR1_1,fR2_1,sR_1⟩:=R1.open3;obtain⟨ux1,rfl,x1⟩:=x1;obtain⟨ax1,kx1,rfl,-⟩:=x1.view)
    |(go_at_call 74;(with_reducible refine(BA.out _ _ (x1.below (below_alloc _ _)) (T1.below (below_alloc _ _))).mono ?_);rintro e w2 ⟨vy2,rfl,y2,hb2⟩;have hb2':=(below_a hb2);have B2:=B1.trans (hb2'.mono B1.size);have m2:=m1.below hb2';have T2:=T1.below hb2';have P2:=P1.below hb2';have R2:=R1.below hb2';have x2:=x1.below hb2';clear m1 T1 P1 R1 x1;have Q2:=blk_new.below hb2;clear cP0_1 cP1_1 cP2_1 fP0_1 fP1_1 fP2_1 sP_1;obtain⟨cP0_2,cP1_2,cP2_2,fP0_2,fP1_2,fP2_2,sP_2⟩:=P2.open3;clear cR0_1 cR1_1 cR2_1 fR0_1 fR1_1 fR2_1 sR_1;obtain⟨cR0_2,cR1_2,cR2_2,fR0_2,fR1_2,fR2_2,sR_2⟩:=R2.open3;obtain⟨cQ0_2,cQ1_2,cQ2_2,fQ0_2,fQ1_2,fQ2_2,sQ_2⟩:=Q2.open3;obtain⟨ay2,ky2,rfl,-⟩:=y2.view;try simp only[List.length_nil]at y2)
    |fail)
 refine bodyPost_ret (v:= .agg #[.bool (!n'),.slice ax1 (digs BB M').length kx1,.int .i64 E']) ?_ rfl ?_
 ·have q:=(Blk.next (o:= .cells #[.bool (!n'),.slice ay2 (digs BB M').length ky2,.int .i64 E'] 63 (0,0)) (R2.set3 (.bool (!n')) (.slice ax1 (digs BB M').length kx1) (.int .i64 E'))).open3
  simp[results,Tryz.results52,go_sem,q.1,q.2.1,q.2.2.1]
 ·exact⟨_,rfl,(x2.set3 R2 dcells _ _ _).below (below_alloc _ _),bel_next (below_set3b B2 (by omega) _ _ _)⟩
end Go.Proofs.YtffaefjkpipjnaaGreatDoor
namespace Go.Proofs.YtffaefjkpipjnaaGreatDoor
set_option maxRecDepth 100000
open Go.RowKit Go.ChangeShapes Go.WideShapes
theorem litn {w:World}{T:TypeId}{o o':Obj}:Num (((w.alloc o).alloc (.cells #[.int .u64 1] T (0,0))).alloc o') (.slice (some ⟨w.heap.size+1,0,none⟩) 1 1) 1:=by
 have h:RdN ((w.alloc o).alloc (.cells #[.int .u64 ((1:Nat):Int)] T (0,0))) (.slice (some ⟨w.heap.size+1,0,none⟩) 1 1) [1]:=rd_one (heap_new2 _ _ _) trivial
 exact(RdN.num1 h (by decide)).below (below_alloc _ _)
def ofB (s:Int) (rt:Bool) (ca cb cn co:Int):Int:=
 if s=0∨rt=false then 0 else if 0≤ca then 1 else if cb≤0 then 2 else if s=1∧cn<0 then 3 else if s= -1∧0<co then 4 else 0
theorem b355:bitN 355≤400000:=Nat.le_trans (bitN_le.2 (show 355<2^9 by decide)) (by decide)
theorem b373:bitN 373≤400000:=Nat.le_trans (bitN_le.2 (show 373<2^9 by decide)) (by decide)
theorem bare373:bareD ⟨true,373,1⟩=⟨true,373,1⟩:=rfl
theorem bareN:bareD ⟨false,1,-60⟩=⟨false,1,-60⟩:=rfl
theorem bareO:bareD ⟨true,1,-60⟩=⟨true,1,-60⟩:=rfl
set_option maxHeartbeats 4000000 in
theorem bOf_n {w:World}{v u:Value}{neg neg2 f1 f2:Bool}{M M2:Nat}{E E2 c ca cb cn co s k:Int}(h:Num w v M) (h':Num w u M2) (hT:Tab w) (h1: -9223372036854775808≤E) (h2:E≤9223372036854775807) (h3: -9223372036854775808≤E2) (h4:E2≤9223372036854775807)
 (sM:bitN M≤400000) (sM2:bitN M2≤400000) (hf1:fitsE (bareD ⟨neg,M,E⟩).e=f1) (hf2:fitsE (bareD ⟨neg2,M2,E2⟩).e=f2) (hc:cmpD (bareD ⟨neg,M,E⟩) (bareD ⟨neg2,M2,E2⟩)=c)
 (hca:cmpD (bareD ⟨neg,M,E⟩) ⟨false,355,1⟩=ca) (hcb:cmpD (bareD ⟨neg2,M2,E2⟩) ⟨true,373,1⟩=cb) (hcn:cmpD (bareD ⟨neg2,M2,E2⟩) ⟨false,1,-60⟩=cn) (hco:cmpD (bareD ⟨neg,M,E⟩) ⟨true,1,-60⟩=co) (hk:ofB s (f1&&f2&&decide (c≤0)) ca cb cn co=k):
 Calls Tryz.prog 27 #[.agg #[.bool neg,v,.int .i64 E,.bool neg2,u,.int .i64 E2],.int .i64 s] w (fun e w'=>e= .returned (.int .i64 k)∧Below w.heap.size w w'):=by
 obtain⟨av,nv,kv,rfl⟩:=h.slice
 obtain⟨au,nu,ku,rfl⟩:=h'.slice
 have RT:=Lib.hid (fun w v u (h:Num w v M) (k:Num w u M2) (hT:Tab w)=>Right_n h k hT h1 h2 h3 h4 sM sM2 hf1 hf2 hc)
 have CA:=Lib.hid (fun w v u (h:Num w v M) (k:RdN w u (digs BB 355)) (hT:Tab w)=>Cmp_n h (k.num (Nat.le_trans b355 (by decide))) hT h1 h2 (by decide) (by decide) rfl bare355 sM b355 hca)
 have CB:=Lib.hid (fun w v u (h:Num w v M2) (k:RdN w u (digs BB 373)) (hT:Tab w)=>Cmp_n h (k.num (Nat.le_trans b373 (by decide))) hT h3 h4 (by decide) (by decide) rfl bare373 sM2 b373 hcb)
 have CN:=Lib.hid (fun w v u (h:Num w v M2) (k:Num w u 1) (hT:Tab w)=>Cmp_n h k hT h3 h4 (by decide) (by decide) rfl bareN sM2 (by rw[bitN_one];decide) hcn)
 have CO:=Lib.hid (fun w v u (h:Num w v M) (k:RdN w u (digs BB 1)) (hT:Tab w)=>Cmp_n h (k.num (by rw[bitN_one];decide)) hT h1 h2 (by decide) (by decide) rfl bareO sM (by rw[bitN_one];decide) hco)
 have MN:=Lib.hid (fun w v (h:Num w v 1) (hT:Tab w)=>Minus_ok h hT (by decide) (by decide) bareN rfl rfl (by rw[bitN_one];decide))
 obtain⟨rt,hrt⟩:∃r,(f1&&f2&&decide (c≤0))=r:=⟨_,rfl⟩
 rw[hrt]at RT hk
 clear hf1 hf2 hc hca hcb hcn hco hrt
 unfold ofB at hk
 by_cases hs0:s=0
 ·rw[if_pos (.inl hs0)]at hk
  subst hk hs0
  go_enter Tryz.func27,Tryz.ntmps27
  go_wp2
  all_goals
   go_ret
   exact⟨rfl,below3⟩
 have ds:(s==0)=false:=beq_false_of_ne hs0
 cases rt
 ·rw[if_pos (.inr rfl)]at hk
  subst hk
  clear hs0
  go_enter Tryz.func27,Tryz.ntmps27
  go_wp2_with
   (first
     |(go_at_call 49;(with_reducible refine(RT.out _ _ _ (h.below below3) (h'.below below3) (hT.below below3)).mono ?_);rintro e w1 ⟨rfl,hb1⟩;have B1:=below3.trans (hb1.mono below3.size);have m1:=((h.below below3)).below hb1;have g1:=((h'.below below3)).below hb1;have l1:=((litn)).below hb1;have T1:=((hT.below below3)).below hb1;have P1:=((blk3a)).below hb1;have Q1:=((blk3c)).below hb1;obtain⟨cP0_1,cP1_1,cP2_1,cP3_1,cP4_1,cP5_1,fP0_1,fP1_1,fP2_1,fP3_1,fP4_1,fP5_1,sP_1⟩:=P1.open6;obtain⟨cQ0_1,cQ1_1,cQ2_1,fQ0_1,fQ1_1,fQ2_1,sQ_1⟩:=Q1.open3)
     |fail)
  all_goals
   go_ret
   exact⟨rfl,by assumption⟩
 rw[if_neg (by simp[hs0])]at hk
 clear hs0
 go_enter Tryz.func27,Tryz.ntmps27
 go_upto_region 4 with
  (first
    |(go_at_call 49;(with_reducible refine(RT.out _ _ _ (h.below below3) (h'.below below3) (hT.below below3)).mono ?_);rintro e w1 ⟨rfl,hb1⟩;have B1:=below3.trans (hb1.mono below3.size);have m1:=((h.below below3)).below hb1;have g1:=((h'.below below3)).below hb1;have l1:=((litn)).below hb1;have T1:=((hT.below below3)).below hb1;have P1:=((blk3a)).below hb1;have Q1:=((blk3c)).below hb1;obtain⟨cP0_1,cP1_1,cP2_1,cP3_1,cP4_1,cP5_1,fP0_1,fP1_1,fP2_1,fP3_1,fP4_1,fP5_1,sP_1⟩:=P1.open6;obtain⟨cQ0_1,cQ1_1,cQ2_1,fQ0_1,fQ1_1,fQ2_1,sQ_1⟩:=Q1.open3)
    |fail)
 have hAD5:Below w1.heap.size w1 w1.drew:=below_drewN (Below.refl _ _) 1
 have m5:=m1.below hAD5;have g5:=g1.below hAD5;have l5:=l1.below hAD5;have T5:=T1.below hAD5;have P5:=P1.below hAD5;have Q5:=Q1.below hAD5
 have B5:=B1.trans (hAD5.mono B1.size)
 obtain⟨cP0_5,cP1_5,cP2_5,cP3_5,cP4_5,cP5_5,fP0_5,fP1_5,fP2_5,fP3_5,fP4_5,fP5_5,sP_5⟩:=P5.open6
 obtain⟨cQ0_5,cQ1_5,cQ2_5,fQ0_5,fQ1_5,fQ2_5,sQ_5⟩:=Q5.open3
 by_cases ha:0≤ca
 ·rw[if_pos ha]at hk
  subst hk
  have dc:decide (0≤ca)=true:=decide_eq_true ha
  clear ha
  go_region_held3 (fun w'=>w'.cell? ⟨w.heap.size,0,none⟩=some (.bool neg)∧w'.cell? ⟨w.heap.size,1,none⟩=some (.slice av nv kv)∧w'.cell? ⟨w.heap.size,2,none⟩=some (.int .i64 E)) (first|with_reducible exact⟨cP0_5,cP1_5,cP2_5⟩|with_reducible exact⟨cP0_6,cP1_6,cP2_6⟩|with_reducible exact⟨cP0_7,cP1_7,cP2_7⟩)
  (first
    |(go_at_call 51;(with_reducible refine(of710 T5).mono ?_);rintro e w6 ⟨vy6,rfl,y6,hb6⟩;have B6:=B5.trans (hb6.mono B5.size);have m6:=m5.below hb6;have g6:=g5.below hb6;have l6:=l5.below hb6;have T6:=T5.below hb6;have P6:=P5.below hb6;have Q6:=Q5.below hb6;clear m5 g5 l5 T5 P5 Q5;obtain⟨cP0_6,cP1_6,cP2_6,cP3_6,cP4_6,cP5_6,fP0_6,fP1_6,fP2_6,fP3_6,fP4_6,fP5_6,sP_6⟩:=P6.open6;obtain⟨cQ0_6,cQ1_6,cQ2_6,fQ0_6,fQ1_6,fQ2_6,sQ_6⟩:=Q6.open3;obtain⟨ay6,ky6,rfl,-⟩:=y6.view;try simp only[List.length_nil]at y6)
    |(go_at_call 50;(with_reducible refine(CA.out _ _ _ m6 y6 T6).mono ?_);rintro e w7 ⟨rfl,hb7⟩;have B7:=B6.trans (hb7.mono B6.size);have m7:=m6.below hb7;have g7:=g6.below hb7;have l7:=l6.below hb7;have T7:=T6.below hb7;have P7:=P6.below hb7;have Q7:=Q6.below hb7;have y7:=y6.below hb7;clear m6 g6 l6 T6 P6 Q6 y6;clear cP0_6 cP1_6 cP2_6 cP3_6 cP4_6 cP5_6 fP0_6 fP1_6 fP2_6 fP3_6 fP4_6 fP5_6 sP_6;obtain⟨cP0_7,cP1_7,cP2_7,cP3_7,cP4_7,cP5_7,fP0_7,fP1_7,fP2_7,fP3_7,fP4_7,fP5_7,sP_7⟩:=P7.open6;clear cQ0_6 cQ1_6 cQ2_6 fQ0_6 fQ1_6 fQ2_6 sQ_6;obtain⟨cQ0_7,cQ1_7,cQ2_7,fQ0_7,fQ1_7,fQ2_7,sQ_7⟩:=Q7.open3)
    |fail)
  all_goals
   go_wp2_with fail
   go_ret
   exact⟨rfl,by assumption⟩
 rw[if_neg ha]at hk
 have dc:decide (0≤ca)=false:=decide_eq_false ha
 clear ha
 go_region_held3 (fun w'=>w'.cell? ⟨w.heap.size,0,none⟩=some (.bool neg)∧w'.cell? ⟨w.heap.size,1,none⟩=some (.slice av nv kv)∧w'.cell? ⟨w.heap.size,2,none⟩=some (.int .i64 E)) (first|with_reducible exact⟨cP0_5,cP1_5,cP2_5⟩|with_reducible exact⟨cP0_6,cP1_6,cP2_6⟩|with_reducible exact⟨cP0_7,cP1_7,cP2_7⟩)
 (first
   |(go_at_call 51;(with_reducible refine(of710 T5).mono ?_);rintro e w6 ⟨vy6,rfl,y6,hb6⟩;have B6:=B5.trans (hb6.mono B5.size);have m6:=m5.below hb6;have g6:=g5.below hb6;have l6:=l5.below hb6;have T6:=T5.below hb6;have P6:=P5.below hb6;have Q6:=Q5.below hb6;clear m5 g5 l5 T5 P5 Q5;obtain⟨cP0_6,cP1_6,cP2_6,cP3_6,cP4_6,cP5_6,fP0_6,fP1_6,fP2_6,fP3_6,fP4_6,fP5_6,sP_6⟩:=P6.open6;obtain⟨cQ0_6,cQ1_6,cQ2_6,fQ0_6,fQ1_6,fQ2_6,sQ_6⟩:=Q6.open3;obtain⟨ay6,ky6,rfl,-⟩:=y6.view;try simp only[List.length_nil]at y6)
   |(go_at_call 50;(with_reducible refine(CA.out _ _ _ m6 y6 T6).mono ?_);rintro e w7 ⟨rfl,hb7⟩;have B7:=B6.trans (hb7.mono B6.size);have m7:=m6.below hb7;have g7:=g6.below hb7;have l7:=l6.below hb7;have T7:=T6.below hb7;have P7:=P6.below hb7;have Q7:=Q6.below hb7;have y7:=y6.below hb7;clear m6 g6 l6 T6 P6 Q6 y6;clear cP0_6 cP1_6 cP2_6 cP3_6 cP4_6 cP5_6 fP0_6 fP1_6 fP2_6 fP3_6 fP4_6 fP5_6 sP_6;obtain⟨cP0_7,cP1_7,cP2_7,cP3_7,cP4_7,cP5_7,fP0_7,fP1_7,fP2_7,fP3_7,fP4_7,fP5_7,sP_7⟩:=P7.open6;clear cQ0_6 cQ1_6 cQ2_6 fQ0_6 fQ1_6 fQ2_6 sQ_6;obtain⟨cQ0_7,cQ1_7,cQ2_7,fQ0_7,fQ1_7,fQ2_7,sQ_7⟩:=Q7.open3)
   |fail)
 go_upto_region 6 with fail
 have hAD10:Below w7.heap.size w7 w7.drew:=below_drewN (Below.refl _ _) 1
 have m10:=m7.below hAD10;have g10:=g7.below hAD10;have l10:=l7.below hAD10;have T10:=T7.below hAD10;have P10:=P7.below hAD10;have Q10:=Q7.below hAD10
 have B10:=B7.trans (hAD10.mono B7.size)
 obtain⟨cP0_10,cP1_10,cP2_10,cP3_10,cP4_10,cP5_10,fP0_10,fP1_10,fP2_10,fP3_10,fP4_10,fP5_10,sP_10⟩:=P10.open6
 obtain⟨cQ0_10,cQ1_10,cQ2_10,fQ0_10,fQ1_10,fQ2_10,sQ_10⟩:=Q10.open3
 by_cases hb:cb≤0
 ·rw[if_pos hb]at hk
  subst hk
  have db:decide (cb≤0)=true:=decide_eq_true hb
  clear hb
  go_region_held3 (fun w'=>w'.cell? ⟨w.heap.size,3,none⟩=some (.bool neg2)∧w'.cell? ⟨w.heap.size,4,none⟩=some (.slice au nu ku)∧w'.cell? ⟨w.heap.size,5,none⟩=some (.int .i64 E2)) (first|with_reducible exact⟨cP3_10,cP4_10,cP5_10⟩|with_reducible exact⟨cP3_11,cP4_11,cP5_11⟩|with_reducible exact⟨cP3_12,cP4_12,cP5_12⟩)
  (first
    |(go_at_call 51;(with_reducible refine(of746 T10).mono ?_);rintro e w11 ⟨vz11,rfl,z11,hb11⟩;have B11:=B10.trans (hb11.mono B10.size);have m11:=m10.below hb11;have g11:=g10.below hb11;have l11:=l10.below hb11;have T11:=T10.below hb11;have P11:=P10.below hb11;have Q11:=Q10.below hb11;clear m10 g10 l10 T10 P10 Q10;obtain⟨cP0_11,cP1_11,cP2_11,cP3_11,cP4_11,cP5_11,fP0_11,fP1_11,fP2_11,fP3_11,fP4_11,fP5_11,sP_11⟩:=P11.open6;obtain⟨cQ0_11,cQ1_11,cQ2_11,fQ0_11,fQ1_11,fQ2_11,sQ_11⟩:=Q11.open3;obtain⟨az11,kz11,rfl,-⟩:=z11.view;try simp only[List.length_nil]at z11)
    |(go_at_call 50;(with_reducible refine(CB.out _ _ _ g11 z11 T11).mono ?_);rintro e w12 ⟨rfl,hb12⟩;have B12:=B11.trans (hb12.mono B11.size);have m12:=m11.below hb12;have g12:=g11.below hb12;have l12:=l11.below hb12;have T12:=T11.below hb12;have P12:=P11.below hb12;have Q12:=Q11.below hb12;have z12:=z11.below hb12;clear m11 g11 l11 T11 P11 Q11 z11;clear cP0_11 cP1_11 cP2_11 cP3_11 cP4_11 cP5_11 fP0_11 fP1_11 fP2_11 fP3_11 fP4_11 fP5_11 sP_11;obtain⟨cP0_12,cP1_12,cP2_12,cP3_12,cP4_12,cP5_12,fP0_12,fP1_12,fP2_12,fP3_12,fP4_12,fP5_12,sP_12⟩:=P12.open6;clear cQ0_11 cQ1_11 cQ2_11 fQ0_11 fQ1_11 fQ2_11 sQ_11;obtain⟨cQ0_12,cQ1_12,cQ2_12,fQ0_12,fQ1_12,fQ2_12,sQ_12⟩:=Q12.open3)
    |fail)
  all_goals
   go_wp2_with fail
   go_ret
   exact⟨rfl,by assumption⟩
 rw[if_neg hb]at hk
 have db:decide (cb≤0)=false:=decide_eq_false hb
 clear hb
 go_region_held3 (fun w'=>w'.cell? ⟨w.heap.size,3,none⟩=some (.bool neg2)∧w'.cell? ⟨w.heap.size,4,none⟩=some (.slice au nu ku)∧w'.cell? ⟨w.heap.size,5,none⟩=some (.int .i64 E2)) (first|with_reducible exact⟨cP3_10,cP4_10,cP5_10⟩|with_reducible exact⟨cP3_11,cP4_11,cP5_11⟩|with_reducible exact⟨cP3_12,cP4_12,cP5_12⟩)
 (first
   |(go_at_call 51;(with_reducible refine(of746 T10).mono ?_);rintro e w11 ⟨vz11,rfl,z11,hb11⟩;have B11:=B10.trans (hb11.mono B10.size);have m11:=m10.below hb11;have g11:=g10.below hb11;have l11:=l10.below hb11;have T11:=T10.below hb11;have P11:=P10.below hb11;have Q11:=Q10.below hb11;clear m10 g10 l10 T10 P10 Q10;obtain⟨cP0_11,cP1_11,cP2_11,cP3_11,cP4_11,cP5_11,fP0_11,fP1_11,fP2_11,fP3_11,fP4_11,fP5_11,sP_11⟩:=P11.open6;obtain⟨cQ0_11,cQ1_11,cQ2_11,fQ0_11,fQ1_11,fQ2_11,sQ_11⟩:=Q11.open3;obtain⟨az11,kz11,rfl,-⟩:=z11.view;try simp only[List.length_nil]at z11)
   |(go_at_call 50;(with_reducible refine(CB.out _ _ _ g11 z11 T11).mono ?_);rintro e w12 ⟨rfl,hb12⟩;have B12:=B11.trans (hb12.mono B11.size);have m12:=m11.below hb12;have g12:=g11.below hb12;have l12:=l11.below hb12;have T12:=T11.below hb12;have P12:=P11.below hb12;have Q12:=Q11.below hb12;have z12:=z11.below hb12;clear m11 g11 l11 T11 P11 Q11 z11;clear cP0_11 cP1_11 cP2_11 cP3_11 cP4_11 cP5_11 fP0_11 fP1_11 fP2_11 fP3_11 fP4_11 fP5_11 sP_11;obtain⟨cP0_12,cP1_12,cP2_12,cP3_12,cP4_12,cP5_12,fP0_12,fP1_12,fP2_12,fP3_12,fP4_12,fP5_12,sP_12⟩:=P12.open6;clear cQ0_11 cQ1_11 cQ2_11 fQ0_11 fQ1_11 fQ2_11 sQ_11;obtain⟨cQ0_12,cQ1_12,cQ2_12,fQ0_12,fQ1_12,fQ2_12,sQ_12⟩:=Q12.open3)
   |fail)
 by_cases hs1:s=1
 ·subst hs1
  by_cases hn:cn<0
  ·rw[if_pos ⟨rfl,hn⟩]at hk
   subst hk
   have dn:decide (cn<0)=true:=decide_eq_true hn
   clear hn
   go_wp2_with
    (first
      |(go_at_call 50;(with_reducible refine(CN.out _ _ _ g12 l12 T12).mono ?_);rintro e w13 ⟨rfl,hb13⟩;have B13:=B12.trans (hb13.mono B12.size);have m13:=m12.below hb13;have g13:=g12.below hb13;have l13:=l12.below hb13;have T13:=T12.below hb13;have P13:=P12.below hb13;have Q13:=Q12.below hb13;clear m12 g12 l12 T12 P12 Q12;obtain⟨cP0_13,cP1_13,cP2_13,cP3_13,cP4_13,cP5_13,fP0_13,fP1_13,fP2_13,fP3_13,fP4_13,fP5_13,sP_13⟩:=P13.open6;obtain⟨cQ0_13,cQ1_13,cQ2_13,fQ0_13,fQ1_13,fQ2_13,sQ_13⟩:=Q13.open3)
      |fail)
   all_goals
    go_ret
    exact⟨rfl,by assumption⟩
  rw[if_neg (fun h=>hn h.2),if_neg (fun h=>absurd h.1 (by decide))]at hk
  subst hk
  have dn:decide (cn<0)=false:=decide_eq_false hn
  clear hn
  go_upto_region 10 with
   (first
     |(go_at_call 50;(with_reducible refine(CN.out _ _ _ g12 l12 T12).mono ?_);rintro e w13 ⟨rfl,hb13⟩;have B13:=B12.trans (hb13.mono B12.size);have m13:=m12.below hb13;have g13:=g12.below hb13;have l13:=l12.below hb13;have T13:=T12.below hb13;have P13:=P12.below hb13;have Q13:=Q12.below hb13;clear m12 g12 l12 T12 P12 Q12;obtain⟨cP0_13,cP1_13,cP2_13,cP3_13,cP4_13,cP5_13,fP0_13,fP1_13,fP2_13,fP3_13,fP4_13,fP5_13,sP_13⟩:=P13.open6;obtain⟨cQ0_13,cQ1_13,cQ2_13,fQ0_13,fQ1_13,fQ2_13,sQ_13⟩:=Q13.open3)
     |fail)
  go_quiet (fail)
  all_goals
   go_wp2_with fail
   go_ret
   exact⟨rfl,below_drewN (by assumption) _⟩
 have ds1:(s==1)=false:=beq_false_of_ne hs1
 rw[if_neg (fun h=>hs1 h.1)]at hk
 clear hs1
 go_upto_region 10 with fail
 by_cases hs2:s= -1
 ·subst hs2
  have hAD20:Below w12.heap.size w12 w12.drew:=below_drewN (Below.refl _ _) 1
  have m20:=m12.below hAD20;have g20:=g12.below hAD20;have l20:=l12.below hAD20;have T20:=T12.below hAD20;have P20:=P12.below hAD20;have Q20:=Q12.below hAD20
  have B20:=B12.trans (hAD20.mono B12.size)
  obtain⟨cP0_20,cP1_20,cP2_20,cP3_20,cP4_20,cP5_20,fP0_20,fP1_20,fP2_20,fP3_20,fP4_20,fP5_20,sP_20⟩:=P20.open6
  obtain⟨cQ0_20,cQ1_20,cQ2_20,fQ0_20,fQ1_20,fQ2_20,sQ_20⟩:=Q20.open3
  by_cases ho:0<co
  ·rw[if_pos ⟨rfl,ho⟩]at hk
   subst hk
   have do1:decide (0<co)=true:=decide_eq_true ho
   clear ho
   go_region_held3 (fun w'=>(w'.cell? ⟨w.heap.size,0,none⟩=some (.bool neg)∧w'.cell? ⟨w.heap.size,1,none⟩=some (.slice av nv kv)∧w'.cell? ⟨w.heap.size,2,none⟩=some (.int .i64 E))∧w'.cell? ⟨w.heap.size+1+1,0,none⟩=some (.bool false)∧w'.cell? ⟨w.heap.size+1+1,1,none⟩=some (.slice (some ⟨w.heap.size+1,0,none⟩) 1 1)∧w'.cell? ⟨w.heap.size+1+1,2,none⟩=some (.int .i64 (-60))) (first|with_reducible exact⟨⟨cP0_20,cP1_20,cP2_20⟩,cQ0_20,cQ1_20,cQ2_20⟩|with_reducible exact⟨⟨cP0_21,cP1_21,cP2_21⟩,cQ0_21,cQ1_21,cQ2_21⟩|with_reducible exact⟨⟨cP0_22,cP1_22,cP2_22⟩,cQ0_22,cQ1_22,cQ2_22⟩)
   (first
     |(go_at_call 52;(with_reducible refine(MN.out _ _ l20 T20).mono ?_);rintro e w21 ⟨vz21,rfl,z21,hb21⟩;have B21:=B20.trans (hb21.mono B20.size);have m21:=m20.below hb21;have g21:=g20.below hb21;have l21:=l20.below hb21;have T21:=T20.below hb21;have P21:=P20.below hb21;have Q21:=Q20.below hb21;clear m20 g20 l20 T20 P20 Q20;obtain⟨cP0_21,cP1_21,cP2_21,cP3_21,cP4_21,cP5_21,fP0_21,fP1_21,fP2_21,fP3_21,fP4_21,fP5_21,sP_21⟩:=P21.open6;obtain⟨cQ0_21,cQ1_21,cQ2_21,fQ0_21,fQ1_21,fQ2_21,sQ_21⟩:=Q21.open3;obtain⟨az21,kz21,rfl,-⟩:=z21.view;try simp only[List.length_nil]at z21)
     |(go_at_call 50;(with_reducible refine(CO.out _ _ _ m21 z21 T21).mono ?_);rintro e w22 ⟨rfl,hb22⟩;have B22:=B21.trans (hb22.mono B21.size);have m22:=m21.below hb22;have g22:=g21.below hb22;have l22:=l21.below hb22;have T22:=T21.below hb22;have P22:=P21.below hb22;have Q22:=Q21.below hb22;have z22:=z21.below hb22;clear m21 g21 l21 T21 P21 Q21 z21;clear cP0_21 cP1_21 cP2_21 cP3_21 cP4_21 cP5_21 fP0_21 fP1_21 fP2_21 fP3_21 fP4_21 fP5_21 sP_21;obtain⟨cP0_22,cP1_22,cP2_22,cP3_22,cP4_22,cP5_22,fP0_22,fP1_22,fP2_22,fP3_22,fP4_22,fP5_22,sP_22⟩:=P22.open6;clear cQ0_21 cQ1_21 cQ2_21 fQ0_21 fQ1_21 fQ2_21 sQ_21;obtain⟨cQ0_22,cQ1_22,cQ2_22,fQ0_22,fQ1_22,fQ2_22,sQ_22⟩:=Q22.open3)
     |fail)
   all_goals
    go_wp2_with fail
    go_ret
    exact⟨rfl,by assumption⟩
  ·rw[if_neg (fun h=>ho h.2)]at hk
   subst hk
   have do1:decide (0<co)=false:=decide_eq_false ho
   clear ho
   go_region_held3 (fun w'=>(w'.cell? ⟨w.heap.size,0,none⟩=some (.bool neg)∧w'.cell? ⟨w.heap.size,1,none⟩=some (.slice av nv kv)∧w'.cell? ⟨w.heap.size,2,none⟩=some (.int .i64 E))∧w'.cell? ⟨w.heap.size+1+1,0,none⟩=some (.bool false)∧w'.cell? ⟨w.heap.size+1+1,1,none⟩=some (.slice (some ⟨w.heap.size+1,0,none⟩) 1 1)∧w'.cell? ⟨w.heap.size+1+1,2,none⟩=some (.int .i64 (-60))) (first|with_reducible exact⟨⟨cP0_20,cP1_20,cP2_20⟩,cQ0_20,cQ1_20,cQ2_20⟩|with_reducible exact⟨⟨cP0_21,cP1_21,cP2_21⟩,cQ0_21,cQ1_21,cQ2_21⟩|with_reducible exact⟨⟨cP0_22,cP1_22,cP2_22⟩,cQ0_22,cQ1_22,cQ2_22⟩)
   (first
     |(go_at_call 52;(with_reducible refine(MN.out _ _ l20 T20).mono ?_);rintro e w21 ⟨vz21,rfl,z21,hb21⟩;have B21:=B20.trans (hb21.mono B20.size);have m21:=m20.below hb21;have g21:=g20.below hb21;have l21:=l20.below hb21;have T21:=T20.below hb21;have P21:=P20.below hb21;have Q21:=Q20.below hb21;clear m20 g20 l20 T20 P20 Q20;obtain⟨cP0_21,cP1_21,cP2_21,cP3_21,cP4_21,cP5_21,fP0_21,fP1_21,fP2_21,fP3_21,fP4_21,fP5_21,sP_21⟩:=P21.open6;obtain⟨cQ0_21,cQ1_21,cQ2_21,fQ0_21,fQ1_21,fQ2_21,sQ_21⟩:=Q21.open3;obtain⟨az21,kz21,rfl,-⟩:=z21.view;try simp only[List.length_nil]at z21)
     |(go_at_call 50;(with_reducible refine(CO.out _ _ _ m21 z21 T21).mono ?_);rintro e w22 ⟨rfl,hb22⟩;have B22:=B21.trans (hb22.mono B21.size);have m22:=m21.below hb22;have g22:=g21.below hb22;have l22:=l21.below hb22;have T22:=T21.below hb22;have P22:=P21.below hb22;have Q22:=Q21.below hb22;have z22:=z21.below hb22;clear m21 g21 l21 T21 P21 Q21 z21;clear cP0_21 cP1_21 cP2_21 cP3_21 cP4_21 cP5_21 fP0_21 fP1_21 fP2_21 fP3_21 fP4_21 fP5_21 sP_21;obtain⟨cP0_22,cP1_22,cP2_22,cP3_22,cP4_22,cP5_22,fP0_22,fP1_22,fP2_22,fP3_22,fP4_22,fP5_22,sP_22⟩:=P22.open6;clear cQ0_21 cQ1_21 cQ2_21 fQ0_21 fQ1_21 fQ2_21 sQ_21;obtain⟨cQ0_22,cQ1_22,cQ2_22,fQ0_22,fQ1_22,fQ2_22,sQ_22⟩:=Q22.open3)
     |fail)
   all_goals
    go_wp2_with fail
    go_ret
    exact⟨rfl,by assumption⟩
 rw[if_neg (fun h=>hs2 h.1)]at hk
 subst hk
 have ds2:(s== -1)=false:=beq_false_of_ne hs2
 go_quiet (fail)
 all_goals
  go_wp2_with fail
  go_ret
  exact⟨rfl,below_drewN (by assumption) _⟩
end Go.Proofs.YtffaefjkpipjnaaGreatDoor
namespace Go.Proofs.YtffaefjkpipjnaaGreatDoor
set_option maxRecDepth 100000
open Go.RowKit Go.ChangeShapes Go.WideShapes
end Go.Proofs.YtffaefjkpipjnaaGreatDoor

namespace Go.Proofs.YtffaefjkpipjnaaGreatDoor
set_option maxRecDepth 100000
set_option linter.unusedVariables false
theorem ln2_fine:∃l h:Rat,LnIn 2 l h∧h≤69318/100000:=by
 refine⟨_,_,ln_two_ref 20,?_⟩
 have h1:refAt 1 3 (2^20) (20/3+2)+8≤363425:=by decide+kernel
 have h2:=Rat.mul_le_mul_of_nonneg_right (rq_le h1) (show(0:Rat)≤2*pw (-((20:Nat):Int))from Rat.mul_nonneg (by decide) (Rat.le_of_lt (pw_pos _)))
 have h3:=pw_unit 20
 have e20:((2^20:Nat):Rat)=1048576:=by decide+kernel
 rw[e20]at h3
 have e36:((363425:Nat):Rat)=363425:=rfl
 rw[e36]at h2
 generalize pw (-((20:Nat):Int))=p at*
 generalize ((refAt 1 3 (2^20) (20/3+2)+8:Nat):Rat)=r at*
 have h4:p=1/1048576:=by grind
 rw[h4]at h2⊢
 grind
theorem pw_exp {n:Nat}{q:Rat}(h:(n:Rat)*(69318/100000)+1/10≤q):XL (-q) (pw (n:Int)*(11/10)) 1:=by
 obtain⟨l,u,k,hu⟩:=ln2_fine
 have kp:=(k.pow n).hi
 rw[pow_two]at kp
 have k2:=kp.mul (XL.neg_lin (q:=1/10) (by decide+kernel))
 rw[Rat.mul_one,show(1:Rat)+1/10=11/10 by decide+kernel]at k2
 refine k2.mono ?_
 have:=Rat.mul_le_mul_of_nonneg_left hu (rq_nat_nonneg n)
 grind
theorem tiny_175:pw (-175)*40≤pw (-60)∧pw (-60)*64=pw (-54)∧pw (-60)*128=pw (-53)∧pw (-60)≤1/1000000∧0<pw (-175):=by
 have a1:pw (-60)*pw 6=pw (-54):=by rw[←pw_add];rfl
 have a2:pw (-60)*pw 7=pw (-53):=by rw[←pw_add];rfl
 have a3:pw (-175)*pw 115=pw (-60):=by rw[←pw_add];rfl
 have b1:pw 6=64:=by have:=pw_nat 6;rw[show((6:Nat):Int)=6 from rfl]at this;rw[this];decide+kernel
 have b2:pw 7=128:=by have:=pw_nat 7;rw[show((7:Nat):Int)=7 from rfl]at this;rw[this];decide+kernel
 have b3:40≤pw 115:=by have:=pw_nat 115;rw[show((115:Nat):Int)=115 from rfl]at this;rw[this];decide+kernel
 rw[b1]at a1
 rw[b2]at a2
 have hp:=pw_pos (-175)
 have h3:=Rat.mul_le_mul_of_nonneg_left b3 (Rat.le_of_lt hp)
 refine⟨by grind,a1,a2,?_,hp⟩
 have c1:pw (-60)*pw 60=1:=by rw[←pw_add];rfl
 have c2:1000000≤pw 60:=by have:=pw_nat 60;rw[show((60:Nat):Int)=60 from rfl]at this;rw[this];decide+kernel
 have h4:=Rat.mul_le_mul_of_nonneg_left c2 (Rat.le_of_lt (pw_pos (-60)))
 grind
section
variable {d lo hi:Dn}{k:Int}(o:ExpV d lo hi 200 k) (v1: -1024<qv d) (v2:qv d<1024)
include o v1 v2
end
end Go.Proofs.YtffaefjkpipjnaaGreatDoor
namespace Go.Proofs.YtffaefjkpipjnaaGreatDoor
set_option maxRecDepth 100000
open Go.RowKit
set_option linter.unusedVariables false
theorem upB_zero (n:Bool):upB 0 n=false:=by cases n<;>rfl
theorem hb_le (h:Bool):hb h≤1:=by cases h<;>decide
theorem round_above {n more:Bool}{M:Nat}{E dir:Int}(h1:1<(M:Rat)*pw E) (h2:(M:Rat)*pw E<1+pw (-53)):toB n M E more dir=(signedB (moreB dir n) n,1):=by
 have p53:pw (-53)*pw 53=1:=by rw[←pw_add];rfl
 have e53:pw 53=((9007199254740992:Nat):Rat):=pw_nat 53
 have q53:pw (-53)≤1:=by have:=pw_mono (show(-53:Int)≤0 by decide);rw[pw_zero]at this;exact this
 have e1:pw (0+1)=2:=pw_one
 have ht:topD ⟨n,M,E⟩=0:=top_val (by rw[pw_zero];exact Rat.le_of_lt h1) (by rw[e1];grind)
 obtain⟨q,h,b,hp⟩:∃q h b,partsP M E (-52)=(q,h,b):=⟨_,_,_,rfl⟩
 obtain⟨a1,a2,a3,a4⟩:=parts_val hp
 rw[show(1:Int)- -52=53 by decide]at a1 a2 a3 a4
 have hp53:=pw_pos 53
 have b1:=Rat.mul_lt_mul_of_pos_right h1 hp53
 have b2:=Rat.mul_lt_mul_of_pos_right h2 hp53
 rw[Rat.one_mul]at b1
 rw[Rat.add_mul,Rat.one_mul,p53]at b2
 rw[e53]at b1 b2 a1 a2 a3 a4
 have hT:2*q+hb h=9007199254740992:=by
  have c1:((9007199254740992:Nat):Rat)<((2*q+hb h+1:Nat):Rat):=by rw[Rat.natCast_add];show _<_+(1:Rat);grind
  have c2:((2*q+hb h:Nat):Rat)<((9007199254740992+1:Nat):Rat):=by rw[Rat.natCast_add 9007199254740992 1];show _<_+(1:Rat);grind
  have:=Rat.natCast_lt_natCast.1 c1
  have:=Rat.natCast_lt_natCast.1 c2
  omega
 have hh:=hb_le h
 have hq:q=4503599627370496:=by omega
 obtain rfl:h=false:=by
  cases h
  ·rfl
  ·have:hb true=1:=rfl
   omega
 obtain rfl:b=true:=by
  cases b
  ·have:=a3 rfl
   rw[this,hT]at b1
   exfalso;grind
  ·rfl
 have hu:unitB 0= -52:=by decide
 have hw:wholeP n M E more dir (-52)=(if upB dir n then 4503599627370497 else 4503599627370496,true):=by
  unfold wholeP
  rw[hp]
  dsimp only
  rw[hq]
  unfold awayB
  by_cases hd:dir=0
  ·rw[hd,if_pos rfl,upB_zero];rfl
  ·rw[if_neg hd]
   cases upB dir n<;>rfl
 unfold toB
 rw[ht,if_neg (by decide),if_neg (by decide)]
 unfold flagB sizeB moreB
 rw[ht,hu,hw]
 cases upB dir n<;>rfl
theorem round_below {n more:Bool}{M:Nat}{E dir:Int}(h1:1-pw (-54)<(M:Rat)*pw E) (h2:(M:Rat)*pw E<1):toB n M E more dir=(signedB (lessB dir n) n,1):=by
 have p54:pw (-54)*pw 54=1:=by rw[←pw_add];rfl
 have e54:pw 54=((18014398509481984:Nat):Rat):=pw_nat 54
 have q54:pw (-54)≤pw (-1):=pw_mono (by decide)
 have q1:pw (-1)*2=1:=by have:=pw_neg 1;rw[pw_one]at this;exact this
 have ht:topD ⟨n,M,E⟩= -1:=top_val (by grind) (by rw[show(-1:Int)+1=0 by decide,pw_zero];exact h2)
 obtain⟨q,h,b,hp⟩:∃q h b,partsP M E (-53)=(q,h,b):=⟨_,_,_,rfl⟩
 obtain⟨a1,a2,a3,a4⟩:=parts_val hp
 rw[show(1:Int)- -53=54 by decide]at a1 a2 a3 a4
 have hp54:=pw_pos 54
 have b1:=Rat.mul_lt_mul_of_pos_right h1 hp54
 have b2:=Rat.mul_lt_mul_of_pos_right h2 hp54
 rw[Rat.one_mul]at b2
 rw[show(1-pw (-54))*pw 54=pw 54-1 by grind]at b1
 rw[e54]at b1 b2 a1 a2 a3 a4
 have hT:2*q+hb h+1=18014398509481984:=by
  have c1:((18014398509481984:Nat):Rat)<((2*q+hb h+1+1:Nat):Rat):=by rw[Rat.natCast_add,Rat.natCast_add];show _<_+(1:Rat)+(1:Rat);grind
  have c2:((2*q+hb h:Nat):Rat)<((18014398509481984:Nat):Rat):=by grind
  have:=Rat.natCast_lt_natCast.1 c1
  have:=Rat.natCast_lt_natCast.1 c2
  omega
 have hh:=hb_le h
 have hq:q=9007199254740991:=by omega
 obtain rfl:h=true:=by
  cases h
  ·have:hb false=0:=rfl
   omega
  ·rfl
 obtain rfl:b=true:=by
  cases b
  ·have h3:=a3 rfl
   rw[h3]at b1
   have c3:((18014398509481984:Nat):Rat)=((2*q+hb true:Nat):Rat)+1:=by rw[←hT,Rat.natCast_add];rfl
   exfalso;grind
  ·rfl
 have hu:unitB (-1)= -53:=by decide
 have hw:wholeP n M E more dir (-53)=(if decide (dir=0)||upB dir n then 9007199254740992 else 9007199254740991,true):=by
  unfold wholeP
  rw[hp]
  dsimp only
  rw[hq]
  unfold awayB
  by_cases hd:dir=0
  ·rw[hd,if_pos rfl,decide_eq_true rfl,Bool.true_or];rfl
  ·rw[if_neg hd,decide_eq_false hd,Bool.false_or]
   cases upB dir n<;>rfl
 unfold toB
 rw[ht,if_neg (by decide),if_neg (by decide)]
 unfold flagB sizeB lessB
 rw[ht,hu,hw]
 cases(decide (dir=0)||upB dir n)<;>rfl
theorem round_over {n more:Bool}{M:Nat}{E dir:Int}(h:pw 1024≤(M:Rat)*pw E):toB n M E more dir=(overB n dir,5):=by
 unfold toB
 rw[if_pos (by have:=(top_ge (n:=n) h).1;omega)]
theorem round_under {n more:Bool}{M:Nat}{E dir:Int}(h0:M≠0) (h:(M:Rat)*pw E<pw (-1075)):toB n M E more dir=(underB n dir,3):=by
 have:=top_lt (n:=n) h0 h
 unfold toB
 rw[if_neg (by omega),if_pos this]
end Go.Proofs.YtffaefjkpipjnaaGreatDoor
namespace Go.Proofs.YtffaefjkpipjnaaGreatDoor
set_option maxRecDepth 100000
open Go.RowKit
set_option linter.unusedVariables false
theorem class_val {d:Dn}{s ca cb cn co k:Int}(hs:signD d=s) (hca:cmpD d ⟨false,355,1⟩=ca) (hcb:cmpD d ⟨true,373,1⟩=cb) (hcn:cmpD d ⟨false,1,-60⟩=cn) (hco:cmpD d ⟨true,1,-60⟩=co) (hk:ofB s true ca cb cn co=k):
 (k=0)∨(k=1∧710≤qv d)∨(k=2∧qv d≤-746)∨(k=3∧0<qv d∧qv d<pw (-60))∨(k=4∧qv d<0∧-pw (-60)<qv d):=by
 have e1:qv ⟨false,355,1⟩=710:=by rw[qv_pos,pw_one];decide+kernel
 have e2:qv ⟨true,373,1⟩= -746:=by rw[qv_neg,pw_one];decide+kernel
 have e3:qv ⟨false,1,-60⟩=pw (-60):=by rw[qv_pos];exact Rat.one_mul _
 have e4:qv ⟨true,1,-60⟩= -pw (-60):=by
  rw[qv_neg]
  have:((1:Nat):Rat)*pw (-60)=pw (-60):=Rat.one_mul _
  rw[this]
 have c1:=cmpD_val d ⟨false,355,1⟩
 have c2:=cmpD_val d ⟨true,373,1⟩
 have c3:=cmpD_val d ⟨false,1,-60⟩
 have c4:=cmpD_val d ⟨true,1,-60⟩
 have c5:=signD_val d
 rw[hca,e1]at c1
 rw[hcb,e2]at c2
 rw[hcn,e3]at c3
 rw[hco,e4]at c4
 rw[hs]at c5
 unfold ofB at hk
 split at hk
 ·exact .inl hk.symm
 split at hk
 ·refine .inr (.inl ⟨hk.symm,?_⟩)
  rename_i h
  rcases c1 with⟨_,c⟩|⟨c,_⟩|⟨c,_⟩
  ·omega
  ·grind
  ·grind
 split at hk
 ·refine .inr (.inr (.inl ⟨hk.symm,?_⟩))
  rename_i h
  rcases c2 with⟨c,_⟩|⟨c,_⟩|⟨_,c⟩
  ·grind
  ·grind
  ·omega
 split at hk
 ·refine .inr (.inr (.inr (.inl ⟨hk.symm,?_⟩)))
  rename_i h
  constructor
  ·rcases c5 with⟨_,c⟩|⟨_,c⟩|⟨c,_⟩
   ·omega
   ·omega
   ·exact c
  ·rcases c3 with⟨c,_⟩|⟨_,c⟩|⟨_,c⟩
   ·exact c
   ·omega
   ·omega
 split at hk
 ·refine .inr (.inr (.inr (.inr ⟨hk.symm,?_⟩)))
  rename_i h
  constructor
  ·rcases c5 with⟨c,_⟩|⟨_,c⟩|⟨_,c⟩
   ·exact c
   ·omega
   ·omega
  ·rcases c4 with⟨_,c⟩|⟨_,c⟩|⟨c,_⟩
   ·omega
   ·omega
   ·exact c
 ·exact .inl hk.symm
end Go.Proofs.YtffaefjkpipjnaaGreatDoor

namespace Go.Proofs.YtffaefjkpipjnaaGreatDoor
set_option linter.unusedVariables false
set_option linter.unusedSimpArgs false
set_option maxRecDepth 100000
open Go.RowKit Go.ChangeShapes Go.WideShapes
theorem lit1b {w:World}{T:TypeId}{n:Nat}{o:Obj}(h:Hid (n<BB)):Num ((w.alloc o).alloc (.cells #[.int .u64 (n:Int)] T (0,0))) (.slice (some ⟨w.heap.size+1,0,none⟩) 1 1) n:=by
 have h1:RdN ((w.alloc o).alloc (.cells #[.int .u64 (n:Int)] T (0,0))) (.slice (some ⟨w.heap.size+1,0,none⟩) 1 1) [n]:=rd_one (heap_new2 _ _ _) trivial
 exact RdN.num1 h1 h.out
theorem or_52 (x:Nat) (hx:x<4503599627370496):bits .or .u64 (x:Int) 4503599627370496=((x+4503599627370496:Nat):Int):=by
 have:=(bits_nat .u64 64 (by decide) (fun n h0 h1=>by rw[IntKind.wrap_u64];omega) x 4503599627370496 (by omega) (by decide)).2
 rw[show((4503599627370496:Nat):Int)=4503599627370496 from rfl]at this
 rw[this]
 have h:=Nat.two_pow_add_eq_or_of_lt (i:=52) (b:=x) (by omega) 1
 rw[show 2^52*1=4503599627370496 by decide]at h
 rw[Nat.or_comm,←h,Nat.add_comm]
theorem fdyad_no {w:World}{b:Nat}(hb:b<18446744073709551616) (hf:¬fldN b<2047):Calls Tryz.prog 23 #[L64 b] w (fun e w'=>e= .returned (.tuple #[.agg #[.bool false,.slice none 0 0,.int .i64 0],.bool false])∧Below w.heap.size w w'):=by
 have HF:=Lib.hid (fun w=>finite_n (w:=w) hb)
 rw[decide_eq_false hf]at HF
 clear hf hb
 go_enter Tryz.func23,Tryz.ntmps23
 go_wp2_with
  (first
    |(go_at_call 45;(with_reducible refine(HF.out _).mono ?_);rintro e w1 ⟨rfl,rfl⟩)
    |fail)
 obtain⟨z0,z1,z2,-⟩:=(blk_new (w:=w) (c:= #[.bool false,.slice none 0 0,.int .i64 0]) (T:=63)).open3
 refine bodyPost_ret (v:= .tuple #[.agg #[.bool false,.slice none 0 0,.int .i64 0],.bool false]) (by simp[results,Tryz.results23,go_sem,z0,z1,z2]) rfl ⟨rfl,below_alloc _ _⟩
set_option maxHeartbeats 1000000 in
theorem fdyad_n {w:World}{b m':Nat}{n':Bool}{e':Int}(hb:b<18446744073709551616) (hT:Tab w) (hf:fldN b<2047) (hd:dyB b=⟨n',m',e'⟩):Calls Tryz.prog 23 #[L64 b] w (fun e w'=>∃v,e= .returned (.tuple #[.agg #[.bool n',v,.int .i64 e'],.bool true])∧RdN w' v (digs BB m')∧Below w.heap.size w w'):=by
 have HF:=Lib.hid (fun w=>finite_n (w:=w) hb)
 rw[decide_eq_true hf]at HF
 have HE:=Lib.hid (fun w=>field_n (w:=w) hb)
 have HN:=Lib.hid (fun w=>fneg_n (w:=w) hb)
 have ha:=and_52 b hb
 have ho:=or_52 (frcN b) (by unfold frcN;omega)
 unfold dyB at hd
 have hm:mntN b<9007199254740992:=by unfold mntN frcN;split<;>omega
 have hmB:bitN (mntN b)≤53:=bitN_le.2 (by rw[show(2:Nat)^53=9007199254740992 by decide];exact hm)
 have he1: -1075≤expN b:=by unfold expN;omega
 have he2:expN b≤1000:=by unfold expN;omega
 obtain⟨f1,r1,r2⟩:=bareD_fits hd (by omega) (by omega) (by omega)
 have HM:=Lib.hid (fun w v (h:Num w v (mntN b)) (hT:Tab w)=>Make_ok h hT (by omega) (by omega) hd f1)
 obtain⟨M,hM⟩:∃M,mntN b=M:=⟨_,rfl⟩
 obtain⟨E,hE⟩:∃E,expN b=E:=⟨_,rfl⟩
 obtain⟨N,hN⟩:∃N,negN b=N:=⟨_,rfl⟩
 obtain⟨g,hg⟩:∃g,frcN b=g:=⟨_,rfl⟩
 obtain⟨f,hff⟩:∃f,fldN b=f:=⟨_,rfl⟩
 have hg':=hg
 unfold frcN at hg'
 rw[hg']at ha
 rw[hg]at ho
 rw[hM,hE,hN]at HM
 rw[hN]at HN
 rw[hff]at HE
 rw[hM]at hm
 unfold mntN at hM
 unfold expN at hE
 rw[hff]at hM hE hf
 rw[hg]at hM
 have hBB:M<BB:=by rw[show BB=18446744073709551616 from rfl];omega
 replace hBB:=Lib.hid hBB
 clear hd hmB he1 he2 f1 r1 r2 hg hg' hff hN hb
 by_cases c:0<f
 ·have d1:decide ((0:Int)<(f:Int))=true:=decide_eq_true (by omega)
  have d2:decide (0<f)=true:=decide_eq_true c
  rw[if_pos c]at hM
  have hx:max (f:Int) 1=(f:Int):=by omega
  rw[hx]at hE
  have hw:IntKind.i64.wrap ((f:Int)-1075)=E:=by rw[IntKind.wrap_i64];omega
  have hmx:(if(1:Int)≤(f:Int)then(f:Int)else 1)=(f:Int):=if_pos (by omega)
  rw[hM]at ho
  clear hM hE hm
  go_enter Tryz.func23,Tryz.ntmps23
  go_wp2_with
   (first
     |(go_at_call 45;(with_reducible refine(HF.out _).mono ?_);rintro e w1 ⟨rfl,rfl⟩)
     |(go_at_call 46;(with_reducible refine(HE.out _).mono ?_);rintro e w2 ⟨rfl,rfl⟩)
     |(go_at_call 24;(with_reducible refine(HN.out _).mono ?_);rintro e w3 ⟨rfl,rfl⟩)
     |(go_at_call 47;(with_reducible refine(HM.out _ _ (lit1b hBB) (((hT.below (below_alloc _ _))).below (below_alloc _ _))).mono ?_);rintro e w4 ⟨vx4,rfl,x4,hb4⟩;have hb4':=(below_a hb4);have B4:=(below_alloc _ _).trans (hb4'.mono (below_alloc _ _).size);have T4:=((hT.below (below_alloc _ _))).below hb4';have R4:=((blk_new)).below hb4';obtain⟨cR0_4,cR1_4,cR2_4,fR0_4,fR1_4,fR2_4,sR_4⟩:=R4.open3;obtain⟨ax4,kx4,rfl,-⟩:=x4.view;try simp only[List.length_nil]at x4)
     |fail)
  have Z:=(R4.set3 (.bool n') (.slice ax4 (digs BB m').length kx4) (.int .i64 e')).below (below_alloc _ (.cells #[.bool n',.slice ax4 (digs BB m').length kx4,.int .i64 e'] 63))
  obtain⟨z0,z1,z2,-⟩:=Z.open3
  have hBz:=below_set3 B4 (Nat.le_refl _) (.bool n') (.slice ax4 (digs BB m').length kx4) (.int .i64 e')
  refine bodyPost_ret (v:= .tuple #[.agg #[.bool n',.slice ax4 (digs BB m').length kx4,.int .i64 e'],.bool true]) (by simp[results,Tryz.results23,go_sem,z0,z1,z2]) rfl ⟨_,rfl,(x4.set3 R4 dcells _ _ _).below (below_alloc _ _),hBz.trans ((below_alloc _ _).mono hBz.size)⟩
 ·obtain rfl:f=0:=by omega
  rw[if_neg c]at hM
  subst hM
  have hw:(max (0:Int) 1-1075)=E:=by simpa using hE
  clear hE hm c
  go_enter Tryz.func23,Tryz.ntmps23
  go_wp2_with
   (first
     |(go_at_call 45;(with_reducible refine(HF.out _).mono ?_);rintro e w1 ⟨rfl,rfl⟩)
     |(go_at_call 46;(with_reducible refine(HE.out _).mono ?_);rintro e w2 ⟨rfl,rfl⟩)
     |(go_at_call 24;(with_reducible refine(HN.out _).mono ?_);rintro e w3 ⟨rfl,rfl⟩)
     |(go_at_call 47;(with_reducible refine(HM.out _ _ (lit1b hBB) (((hT.below (below_alloc _ _))).below (below_alloc _ _))).mono ?_);rintro e w4 ⟨vx4,rfl,x4,hb4⟩;have hb4':=(below_a hb4);have B4:=(below_alloc _ _).trans (hb4'.mono (below_alloc _ _).size);have T4:=((hT.below (below_alloc _ _))).below hb4';have R4:=((blk_new)).below hb4';obtain⟨cR0_4,cR1_4,cR2_4,fR0_4,fR1_4,fR2_4,sR_4⟩:=R4.open3;obtain⟨ax4,kx4,rfl,-⟩:=x4.view;try simp only[List.length_nil]at x4)
     |fail)
  have Z:=(R4.set3 (.bool n') (.slice ax4 (digs BB m').length kx4) (.int .i64 e')).below (below_alloc _ (.cells #[.bool n',.slice ax4 (digs BB m').length kx4,.int .i64 e'] 63))
  obtain⟨z0,z1,z2,-⟩:=Z.open3
  have hBz:=below_set3 B4 (Nat.le_refl _) (.bool n') (.slice ax4 (digs BB m').length kx4) (.int .i64 e')
  refine bodyPost_ret (v:= .tuple #[.agg #[.bool n',.slice ax4 (digs BB m').length kx4,.int .i64 e'],.bool true]) (by simp[results,Tryz.results23,go_sem,z0,z1,z2]) rfl ⟨_,rfl,(x4.set3 R4 dcells _ _ _).below (below_alloc _ _),hBz.trans ((below_alloc _ _).mono hBz.size)⟩
set_option maxHeartbeats 600000 in
theorem early_n {w:World}{x a b k:Nat}{dir:Int}(hx:x<18446744073709551616) (h1:32≤a) (h2:a≤b) (h3:64≤b) (h4:b≤8192) (d0:0≤dir) (d3:dir≤3) (hk:kindN x=k) (k4:k<4):
 Calls Tryz.prog 22 #[L64 x,.agg #[.int .i64 dir,.int .i64 (a:Int),.int .i64 (b:Int),.pointer none]] w (fun r w'=>r= .returned (.tuple #[.agg #[.int .u64 0,.int .u8 0,.int .i64 0],.int .i64 0,.bool false])∧Below w.heap.size w w'):=by
 have HP:=Lib.hid (fun w=>plan_ok (w:=w) h1 h2 h3 h4)
 have HK:=Lib.hid (fun w=>kind_n (w:=w) hx)
 rw[hk]at HK
 have e0:decide (dir<(0:Int))=false:=decide_eq_false (by omega)
 have e3:decide ((3:Int)<dir)=false:=decide_eq_false (by omega)
 have g5:((k:Int)==5)=false:=beq_false_of_ne (by omega)
 have g4:((k:Int)==4)=false:=beq_false_of_ne (by omega)
 have g5':(k==5)=false:=beq_false_of_ne (by omega)
 have g4':(k==4)=false:=beq_false_of_ne (by omega)
 clear h1 h2 h3 h4 d0 d3 hk hx k4
 go_enter Tryz.func22,Tryz.ntmps22
 go_wp2_with
  (first
    |(go_at_call 44;(with_reducible refine(HP.out _).mono ?_);rintro e w1 ⟨v1,l1,rfl,hl1,hr1,hb1⟩;have B1:=below_2.trans (hb1.mono below_2.size);have P1:=((blk_a1)).below hb1;have R1:=((blk_a2)).below hb1;obtain⟨cP0_1,cP1_1,cP2_1,cP3_1,fP0_1,fP1_1,fP2_1,fP3_1,sP_1⟩:=P1.open4;obtain⟨cR0_1,cR1_1,cR2_1,fR0_1,fR1_1,fR2_1,sR_1⟩:=R1.open3)
    |(go_at_call 33;(with_reducible refine(HK.out _).mono ?_);rintro e w2 ⟨rfl,rfl⟩)
    |fail)
 obtain⟨z0,z1,z2,-⟩:=(R1.set3 (.int .u64 0) (.int .u8 0) (.int .i64 0)).open3
 refine bodyPost_ret (v:= .tuple #[.agg #[.int .u64 0,.int .u8 0,.int .i64 0],.int .i64 0,.bool false]) (by simp[results,Tryz.results22,go_sem,z0,z1,z2]) rfl ⟨rfl,below_set3b B1 (by omega) _ _ _⟩
set_option maxHeartbeats 600000 in
theorem early_sig {w:World}{x a b:Nat}{dir:Int}(hx:x<18446744073709551616) (h1:32≤a) (h2:a≤b) (h3:64≤b) (h4:b≤8192) (d0:0≤dir) (d3:dir≤3) (hk:kindN x=5):
 Calls Tryz.prog 22 #[L64 x,.agg #[.int .i64 dir,.int .i64 (a:Int),.int .i64 (b:Int),.pointer none]] w (fun r w'=>r= .returned (.tuple #[.agg #[.int .u64 9221120237041090560,.int .u8 16,.int .i64 0],.int .i64 0,.bool true])∧Below w.heap.size w w'):=by
 have HP:=Lib.hid (fun w=>plan_ok (w:=w) h1 h2 h3 h4)
 have HK:=Lib.hid (fun w=>kind_n (w:=w) hx)
 rw[hk]at HK
 have e0:decide (dir<(0:Int))=false:=decide_eq_false (by omega)
 have e3:decide ((3:Int)<dir)=false:=decide_eq_false (by omega)
 clear h1 h2 h3 h4 d0 d3 hk hx
 go_enter Tryz.func22,Tryz.ntmps22
 go_wp2_with
  (first
    |(go_at_call 44;(with_reducible refine(HP.out _).mono ?_);rintro e w1 ⟨v1,l1,rfl,hl1,hr1,hb1⟩;have B1:=below_2.trans (hb1.mono below_2.size);have P1:=((blk_a1)).below hb1;have R1:=((blk_a2)).below hb1;obtain⟨cP0_1,cP1_1,cP2_1,cP3_1,fP0_1,fP1_1,fP2_1,fP3_1,sP_1⟩:=P1.open4;obtain⟨cR0_1,cR1_1,cR2_1,fR0_1,fR1_1,fR2_1,sR_1⟩:=R1.open3)
    |(go_at_call 33;(with_reducible refine(HK.out _).mono ?_);rintro e w2 ⟨rfl,rfl⟩)
    |fail)
 obtain⟨z0,z1,z2,-⟩:=(R1.set3 (.int .u64 9221120237041090560) (.int .u8 16) (.int .i64 0)).open3
 refine bodyPost_ret (v:= .tuple #[.agg #[.int .u64 9221120237041090560,.int .u8 16,.int .i64 0],.int .i64 0,.bool true]) (by simp[results,Tryz.results22,go_sem,z0,z1,z2]) rfl ⟨rfl,below_set3b B1 (by omega) _ _ _⟩
set_option maxHeartbeats 600000 in
theorem early_quiet {w:World}{x a b:Nat}{dir:Int}(hx:x<18446744073709551616) (h1:32≤a) (h2:a≤b) (h3:64≤b) (h4:b≤8192) (d0:0≤dir) (d3:dir≤3) (hk:kindN x=4):
 Calls Tryz.prog 22 #[L64 x,.agg #[.int .i64 dir,.int .i64 (a:Int),.int .i64 (b:Int),.pointer none]] w (fun r w'=>r= .returned (.tuple #[.agg #[.int .u64 9221120237041090560,.int .u8 0,.int .i64 0],.int .i64 0,.bool true])∧Below w.heap.size w w'):=by
 have HP:=Lib.hid (fun w=>plan_ok (w:=w) h1 h2 h3 h4)
 have HK:=Lib.hid (fun w=>kind_n (w:=w) hx)
 rw[hk]at HK
 have e0:decide (dir<(0:Int))=false:=decide_eq_false (by omega)
 have e3:decide ((3:Int)<dir)=false:=decide_eq_false (by omega)
 clear h1 h2 h3 h4 d0 d3 hk hx
 go_enter Tryz.func22,Tryz.ntmps22
 go_wp2_with
  (first
    |(go_at_call 44;(with_reducible refine(HP.out _).mono ?_);rintro e w1 ⟨v1,l1,rfl,hl1,hr1,hb1⟩;have B1:=below_2.trans (hb1.mono below_2.size);have P1:=((blk_a1)).below hb1;have R1:=((blk_a2)).below hb1;obtain⟨cP0_1,cP1_1,cP2_1,cP3_1,fP0_1,fP1_1,fP2_1,fP3_1,sP_1⟩:=P1.open4;obtain⟨cR0_1,cR1_1,cR2_1,fR0_1,fR1_1,fR2_1,sR_1⟩:=R1.open3)
    |(go_at_call 33;(with_reducible refine(HK.out _).mono ?_);rintro e w2 ⟨rfl,rfl⟩)
    |fail)
 obtain⟨z0,z1,z2,-⟩:=(R1.set3 (.int .u64 9221120237041090560) (.int .u8 0) (.int .i64 0)).open3
 refine bodyPost_ret (v:= .tuple #[.agg #[.int .u64 9221120237041090560,.int .u8 0,.int .i64 0],.int .i64 0,.bool true]) (by simp[results,Tryz.results22,go_sem,z0,z1,z2]) rfl ⟨rfl,below_set3b B1 (by omega) _ _ _⟩
set_option maxHeartbeats 600000 in
theorem early_bad {w:World}{x:Nat}{a b dir:Int}(hx:x<18446744073709551616) (hbad:¬planOk a b∨dir<0∨3<dir):
 Calls Tryz.prog 22 #[L64 x,.agg #[.int .i64 dir,.int .i64 a,.int .i64 b,.pointer none]] w (fun r w'=>r= .returned (.tuple #[.agg #[.int .u64 0,.int .u8 0,.int .i64 0],.int .i64 1,.bool true])∧Below w.heap.size w w'):=by
 have HK:=Lib.hid (fun w=>kind_n (w:=w) hx)
 generalize kindN x=k at HK
 clear hx
 by_cases hp:planOk a b
 ·have hd:dir<0∨3<dir:=hbad.resolve_left (fun h=>h hp)
  clear hbad
  unfold planOk at hp
  obtain⟨a',rfl⟩:∃n:Nat,a=(n:Int):=⟨a.toNat,by omega⟩
  obtain⟨b',rfl⟩:∃n:Nat,b=(n:Int):=⟨b.toNat,by omega⟩
  have HP:=Lib.hid (fun w=>plan_ok (w:=w) (a:=a') (b:=b') (by omega) (by omega) (by omega) (by omega))
  clear hp
  by_cases c0:dir<0
  ·have e0:decide (dir<(0:Int))=true:=decide_eq_true c0
   clear hd c0
   go_enter Tryz.func22,Tryz.ntmps22
   go_wp2_with
    (first
      |(go_at_call 44;(with_reducible refine(HP.out _).mono ?_);rintro e w1 ⟨v1,l1,rfl,hl1,hr1,hb1⟩;have B1:=below_2.trans (hb1.mono below_2.size);have P1:=((blk_a1)).below hb1;have R1:=((blk_a2)).below hb1;obtain⟨cP0_1,cP1_1,cP2_1,cP3_1,fP0_1,fP1_1,fP2_1,fP3_1,sP_1⟩:=P1.open4;obtain⟨cR0_1,cR1_1,cR2_1,fR0_1,fR1_1,fR2_1,sR_1⟩:=R1.open3)
      |(go_at_call 33;(with_reducible refine(HK.out _).mono ?_);rintro e w2 ⟨rfl,rfl⟩)
      |fail)
   obtain⟨z0,z1,z2,-⟩:=(R1.set3 (.int .u64 0) (.int .u8 0) (.int .i64 0)).open3
   refine bodyPost_ret (v:= .tuple #[.agg #[.int .u64 0,.int .u8 0,.int .i64 0],.int .i64 1,.bool true]) (by simp[results,Tryz.results22,go_sem,z0,z1,z2]) rfl ⟨rfl,below_set3b B1 (by omega) _ _ _⟩
  ·have e0:decide (dir<(0:Int))=false:=decide_eq_false c0
   have e3:decide ((3:Int)<dir)=true:=decide_eq_true (by omega)
   clear hd c0
   go_enter Tryz.func22,Tryz.ntmps22
   go_wp2_with
    (first
      |(go_at_call 44;(with_reducible refine(HP.out _).mono ?_);rintro e w1 ⟨v1,l1,rfl,hl1,hr1,hb1⟩;have B1:=below_2.trans (hb1.mono below_2.size);have P1:=((blk_a1)).below hb1;have R1:=((blk_a2)).below hb1;obtain⟨cP0_1,cP1_1,cP2_1,cP3_1,fP0_1,fP1_1,fP2_1,fP3_1,sP_1⟩:=P1.open4;obtain⟨cR0_1,cR1_1,cR2_1,fR0_1,fR1_1,fR2_1,sR_1⟩:=R1.open3)
      |(go_at_call 33;(with_reducible refine(HK.out _).mono ?_);rintro e w2 ⟨rfl,rfl⟩)
      |fail)
   obtain⟨z0,z1,z2,-⟩:=(R1.set3 (.int .u64 0) (.int .u8 0) (.int .i64 0)).open3
   refine bodyPost_ret (v:= .tuple #[.agg #[.int .u64 0,.int .u8 0,.int .i64 0],.int .i64 1,.bool true]) (by simp[results,Tryz.results22,go_sem,z0,z1,z2]) rfl ⟨rfl,below_set3b B1 (by omega) _ _ _⟩
 ·have HP:=Lib.hid (fun w=>plan_no (w:=w) hp)
  clear hbad hp
  go_enter Tryz.func22,Tryz.ntmps22
  go_wp2_with
   (first
     |(go_at_call 44;(with_reducible refine(HP.out _).mono ?_);rintro e w1 ⟨rfl,rfl⟩)
     |(go_at_call 33;(with_reducible refine(HK.out _).mono ?_);rintro e w2 ⟨rfl,rfl⟩)
     |fail)
  obtain⟨z0,z1,z2,-⟩:=(blk_a2 (w:=w) (T:=38) (o:= .cells #[.int .i64 dir,.int .i64 a,.int .i64 b,.pointer none] 33 (0,0)) (c:= #[.int .u64 0,.int .u8 0,.int .i64 0])).open3
  refine bodyPost_ret (v:= .tuple #[.agg #[.int .u64 0,.int .u8 0,.int .i64 0],.int .i64 1,.bool true]) (by simp[results,Tryz.results22,go_sem,z0,z1,z2]) rfl ⟨rfl,below_2⟩
end Go.Proofs.YtffaefjkpipjnaaGreatDoor
