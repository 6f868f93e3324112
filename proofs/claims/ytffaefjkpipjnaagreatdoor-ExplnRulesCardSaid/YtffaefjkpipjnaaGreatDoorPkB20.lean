/- iv.can, iv.Right by their contracts. Conditions: the numbers are short; math/bits' table stands in its variable. -/
import Derived.Test.YtffaefjkpipjnaaGreatDoorPkB19
import Derived.Test.YtffaefjkpipjnaaGreatDoorPkB12
import Derived.Test.YtffaefjkpipjnaaGreatDoorPkB18
import Derived.Test.YtffaefjkpipjnaaGreatDoorPkB14
import Derived.Test.YtffaefjkpipjnaaGreatDoorPkB16
import Derived.Deep.RegionHeld3
import Derived.Deep.CutBlock
namespace Go.Proofs.YtffaefjkpipjnaaGreatDoor
set_option linter.unusedVariables false
set_option linter.unusedSimpArgs false
set_option maxRecDepth 100000
open Go.RowKit Go.ChangeShapes Go.WideShapes
theorem can_n {w:World}{v:Value}{neg r:Bool}{M:Nat}{E:Int}(h:Num w v M) (hT:Tab w) (h1: -9223372036854775808≤E) (h2:E≤9223372036854775807) (hr:fitsE (bareD ⟨neg,M,E⟩).e=r):
 Calls Tryz.prog 77 #[.agg #[.bool neg,v,.int .i64 E]] w (fun e w'=>e= .returned (.bool r)∧Below w.heap.size w w'):=by
 obtain⟨a,n,k,rfl⟩:=h.slice
 obtain⟨⟨n',M',E'⟩,e⟩:∃d,bareD ⟨neg,M,E⟩=d:=⟨_,rfl⟩
 rw[e]at hr
 simp only at hr
 cases r
 ·have BA:=Lib.hid (fun w v (h:Num w v M) (hT:Tab w)=>Bare_long h hT h1 h2 e hr)
  clear e hr
  go_enter Tryz.func77,Tryz.ntmps77
  go_wp2_with
   (first
     |(go_at_call 74;(with_reducible refine(BA.out _ _ (h.below (below_alloc _ _)) (hT.below (below_alloc _ _))).mono ?_);rintro e w1 ⟨rfl,hb1⟩;have B1:=(below_alloc _ _).trans (hb1.mono (below_alloc _ _).size);have m1:=((h.below (below_alloc _ _))).below hb1;have T1:=((hT.below (below_alloc _ _))).below hb1;have P1:=((blk_new)).below hb1;obtain⟨cP0_1,cP1_1,cP2_1,fP0_1,fP1_1,fP2_1,sP_1⟩:=P1.open3)
     |fail)
  all_goals
   go_ret
   exact⟨rfl,B1.alloc B1.size _⟩
 ·have BA:=Lib.hid (fun w v (h:Num w v M) (hT:Tab w)=>Bare_ok h hT h1 h2 e hr)
  clear e hr
  go_enter Tryz.func77,Tryz.ntmps77
  go_wp2_with
   (first
     |(go_at_call 74;(with_reducible refine(BA.out _ _ (h.below (below_alloc _ _)) (hT.below (below_alloc _ _))).mono ?_);rintro e w1 ⟨vx1,rfl,x1,hb1⟩;have B1:=(below_alloc _ _).trans (hb1.mono (below_alloc _ _).size);have m1:=((h.below (below_alloc _ _))).below hb1;have T1:=((hT.below (below_alloc _ _))).below hb1;have P1:=((blk_new)).below hb1;obtain⟨cP0_1,cP1_1,cP2_1,fP0_1,fP1_1,fP2_1,sP_1⟩:=P1.open3;obtain⟨ax1,kx1,rfl,-⟩:=x1.view;try simp only[List.length_nil]at x1)
     |fail)
  all_goals
   go_ret
   exact⟨rfl,B1.alloc B1.size _⟩
set_option maxHeartbeats 1000000 in
theorem Right_n {w:World}{v u:Value}{neg neg2 f1 f2:Bool}{M M2:Nat}{E E2 c:Int}(h:Num w v M) (h':Num w u M2) (hT:Tab w) (h1: -9223372036854775808≤E) (h2:E≤9223372036854775807) (h3: -9223372036854775808≤E2) (h4:E2≤9223372036854775807)
 (sM:bitN M≤400000) (sM2:bitN M2≤400000) (hf1:fitsE (bareD ⟨neg,M,E⟩).e=f1) (hf2:fitsE (bareD ⟨neg2,M2,E2⟩).e=f2) (hc:cmpD (bareD ⟨neg,M,E⟩) (bareD ⟨neg2,M2,E2⟩)=c):
 Calls Tryz.prog 49 #[.agg #[.bool neg,v,.int .i64 E,.bool neg2,u,.int .i64 E2]] w (fun e w'=>e= .returned (.bool (f1&&f2&&decide (c≤0)))∧Below w.heap.size w w'):=by
 obtain⟨av,nv,kv,rfl⟩:=h.slice
 obtain⟨au,nu,ku,rfl⟩:=h'.slice
 have C1:=Lib.hid (fun w v (h:Num w v M) (hT:Tab w)=>can_n h hT h1 h2 hf1)
 have C2:=Lib.hid (fun w v (h:Num w v M2) (hT:Tab w)=>can_n h hT h3 h4 hf2)
 have CC:=Lib.hid (fun w v u (h:Num w v M) (k:Num w u M2) (hT:Tab w)=>Cmp_n h k hT h1 h2 h3 h4 rfl rfl sM sM2 hc)
 obtain⟨d,hd⟩:∃d,decide (c≤0)=d:=⟨_,rfl⟩
 rw[hd]
 clear hf1 hf2 hc
 cases f1<;>cases f2
 all_goals
  go_enter Tryz.func49,Tryz.ntmps49
  go_wp2_with
   (first
     |(go_at_call 77;(with_reducible refine(C1.out _ _ (h.below (below_alloc _ _)) (hT.below (below_alloc _ _))).mono ?_);rintro e w1 ⟨rfl,hb1⟩;have B1:=(below_alloc _ _).trans (hb1.mono (below_alloc _ _).size);have m1:=((h.below (below_alloc _ _))).below hb1;have g1:=((h'.below (below_alloc _ _))).below hb1;have T1:=((hT.below (below_alloc _ _))).below hb1;have P1:=((blk_new)).below hb1;obtain⟨cP0_1,cP1_1,cP2_1,cP3_1,cP4_1,cP5_1,fP0_1,fP1_1,fP2_1,fP3_1,fP4_1,fP5_1,sP_1⟩:=P1.open6)
     |(go_at_call 77;(with_reducible refine(C2.out _ _ g1 T1).mono ?_);rintro e w2 ⟨rfl,hb2⟩;have B2:=B1.trans (hb2.mono B1.size);have m2:=m1.below hb2;have g2:=g1.below hb2;have T2:=T1.below hb2;have P2:=P1.below hb2;clear m1 g1 T1 P1;clear cP0_1 cP1_1 cP2_1 cP3_1 cP4_1 cP5_1 fP0_1 fP1_1 fP2_1 fP3_1 fP4_1 fP5_1 sP_1;obtain⟨cP0_2,cP1_2,cP2_2,cP3_2,cP4_2,cP5_2,fP0_2,fP1_2,fP2_2,fP3_2,fP4_2,fP5_2,sP_2⟩:=P2.open6)
     |(go_at_call 50;(with_reducible refine(CC.out _ _ _ m2 g2 T2).mono ?_);rintro e w3 ⟨rfl,hb3⟩;have B3:=B2.trans (hb3.mono B2.size);have m3:=m2.below hb3;have g3:=g2.below hb3;have T3:=T2.below hb3;have P3:=P2.below hb3;clear m2 g2 T2 P2;clear cP0_2 cP1_2 cP2_2 cP3_2 cP4_2 cP5_2 fP0_2 fP1_2 fP2_2 fP3_2 fP4_2 fP5_2 sP_2;obtain⟨cP0_3,cP1_3,cP2_3,cP3_3,cP4_3,cP5_3,fP0_3,fP1_3,fP2_3,fP3_3,fP4_3,fP5_3,sP_3⟩:=P3.open6)
     |fail)
  all_goals
   go_ret
   exact⟨rfl,by assumption⟩
set_option maxHeartbeats 600000 in
theorem dright_n {w:World}{v u:Value}{n1 n2:Bool}{M1 M2:Nat}{E1 E2 c s dir:Int}(h:RdN w v (digs BB M1)) (h':RdN w u (digs BB M2)) (hT:Tab w) (q1:bareD ⟨n1,M1,E1⟩=⟨n1,M1,E1⟩) (q2:bareD ⟨n2,M2,E2⟩=⟨n2,M2,E2⟩) (f1:fitsE E1=true) (f2:fitsE E2=true) (s1:bitN M1≤400000) (s2:bitN M2≤400000)
 (hc:cmpD ⟨n1,M1,E1⟩ ⟨n2,M2,E2⟩=c) (hs:signD ⟨n1,M1,E1⟩=s) (d0:0≤dir) (d3:dir≤3):
 Calls Tryz.prog 87 #[.agg #[.bool n1,v,.int .i64 E1,.bool n2,u,.int .i64 E2],.int .i64 dir] w (fun e w'=>e= .returned (.bool (decide (c≤0)&&decide (0<s)))∧Below w.heap.size w w'):=by
 obtain⟨av,kv,rfl,-,-,-,-⟩:=h.view
 obtain⟨au,ku,rfl,-,-,-,-⟩:=h'.view
 have r1: -1073741824≤E1∧E1≤1073741824:=by unfold fitsE at f1;simp at f1;exact f1
 have r2: -1073741824≤E2∧E2≤1073741824:=by unfold fitsE at f2;simp at f2;exact f2
 obtain⟨r1,r1'⟩:=r1
 obtain⟨r2,r2'⟩:=r2
 have HR:=Lib.hid (fun w v u (h:RdN w v (digs BB M1)) (k:RdN w u (digs BB M2)) (hT:Tab w)=>Right_n (f1:=true) (f2:=true) (c:=c) (neg:=n1) (neg2:=n2) (E:=E1) (E2:=E2) (h.num (by omega)) (k.num (by omega)) hT (by omega) (by omega) (by omega) (by omega) (by omega) (by omega) (by rw[q1];exact f1) (by rw[q2];exact f2) (by rw[q1,q2];exact hc))
 have HS:=Lib.hid (fun w v (h:RdN w v (digs BB M1))=>Sign_n (h.num (by omega)) hs)
 have e0:decide ((0:Int)≤dir)=true:=decide_eq_true d0
 have e3:decide (dir≤(3:Int))=true:=decide_eq_true d3
 obtain⟨x,hx⟩:∃x,decide (c≤0)=x:=⟨_,rfl⟩
 obtain⟨y,hy⟩:∃y,decide (0<s)=y:=⟨_,rfl⟩
 simp only[Bool.true_and]at HR
 rw[hx]at HR
 rw[hx,hy]
 clear q1 q2 f1 f2 r1 r1' r2 r2' hc hs hx d0 d3
 cases x<;>cases y
 all_goals
  go_enter Tryz.func87,Tryz.ntmps87
  go_wp2_with
   (first
     |(go_at_call 49;(with_reducible refine(HR.out _ _ _ (h.below (below_alloc _ _)) (h'.below (below_alloc _ _)) (hT.below (below_alloc _ _))).mono ?_);rintro e w1 ⟨rfl,hb1⟩;have B1:=(below_alloc _ _).trans (hb1.mono (below_alloc _ _).size);have m1:=((h.below (below_alloc _ _))).below hb1;have g1:=((h'.below (below_alloc _ _))).below hb1;have T1:=((hT.below (below_alloc _ _))).below hb1;have P1:=((blk_new)).below hb1;obtain⟨cP0_1,cP1_1,cP2_1,cP3_1,cP4_1,cP5_1,fP0_1,fP1_1,fP2_1,fP3_1,fP4_1,fP5_1,sP_1⟩:=P1.open6)
     |(go_at_call 26;(with_reducible refine(HS.out _ _ m1).mono ?_);rintro e w2 ⟨rfl,hb2⟩;have B2:=B1.trans (hb2.mono B1.size);have m2:=m1.below hb2;have g2:=g1.below hb2;have T2:=T1.below hb2;have P2:=P1.below hb2;clear m1 g1 T1 P1;clear cP0_1 cP1_1 cP2_1 cP3_1 cP4_1 cP5_1 fP0_1 fP1_1 fP2_1 fP3_1 fP4_1 fP5_1 sP_1;obtain⟨cP0_2,cP1_2,cP2_2,cP3_2,cP4_2,cP5_2,fP0_2,fP1_2,fP2_2,fP3_2,fP4_2,fP5_2,sP_2⟩:=P2.open6)
     |fail)
  go_ret
  exact⟨rfl,by assumption⟩
theorem Top_z {w:World}{v:Value}{neg:Bool}{E:Int}(h:Num w v 0) (hT:Tab w) (h1: -9223372036854775808≤E) (h2:E≤9223372036854775807):
 Calls Tryz.prog 69 #[.agg #[.bool neg,v,.int .i64 E]] w (fun e w'=>e= .returned (.tuple #[.int .i64 0,.bool false])∧Below w.heap.size w w'):=by
 obtain⟨a,n,k,rfl⟩:=h.slice
 have HB:=Lib.hid (fun w v (h:Num w v 0) (hT:Tab w)=>bare_d (neg:=neg) (E:=E) h hT h1 h2 (bareD_zero rfl))
 have dz:(digs BB 0).length=0:=by rw[digs_zero];rfl
 go_enter Tryz.func69,Tryz.ntmps69
 go_wp2_with
  (first
    |(go_at_call 80;(with_reducible refine(HB.out _ _ (h.below (below_alloc _ _)) (hT.below (below_alloc _ _))).mono ?_);rintro e w1 ⟨vd1,rfl,d1,hb1⟩;have B1:=(below_alloc _ _).trans (hb1.mono (below_alloc _ _).size);have m1:=((h.below (below_alloc _ _))).below hb1;have T1:=((hT.below (below_alloc _ _))).below hb1;have P1:=((blk_new)).below hb1;obtain⟨cP0_1,cP1_1,cP2_1,fP0_1,fP1_1,fP2_1,sP_1⟩:=P1.open3;obtain⟨ud1,rfl,d1⟩:=d1;obtain⟨ad1,kd1,rfl,-⟩:=d1.view)
    |fail)
 go_ret2
 exact⟨by simp,below_set3 B1 (Nat.le_refl _) _ _ _⟩
set_option maxHeartbeats 2000000 in
theorem Break_n {w:World}{v:Value}{neg n':Bool}{A M:Nat}{e0 E:Int}{r:Bool}(h:Num w v A) (hT:Tab w) (h1: -9223372036854775808≤e0) (h2:e0≤9223372036854775807)
 (q:bareD ⟨neg,A,e0⟩=⟨n',M,E⟩) (sM:bitN M≤2560000) (hr:(fitsE E&&(decide (M=0)||isBrk M E))=r):
 Calls Tryz.prog 88 #[.agg #[.bool neg,v,.int .i64 e0]] w (fun e w'=>e= .returned (.bool r)∧Below w.heap.size w w'):=by
 obtain⟨a,n,k,rfl⟩:=h.slice
 by_cases hf:fitsE E=true
 ·have HB:=Lib.hid (fun w v (h:Num w v A) (hT:Tab w)=>Bare_ok h hT h1 h2 q hf)
  have r1: -1073741824≤E∧E≤1073741824:=by unfold fitsE at hf;simp at hf;exact hf
  have qa:=bareD_again q (by omega) (by omega)
  rw[hf,Bool.true_and]at hr
  by_cases h0:M=0
  ·subst h0
   have HT:=Lib.hid (fun w v (h:Num w v 0) (hT:Tab w)=>Top_z (neg:=n') (E:=E) h hT (by omega) (by omega))
   have hrt:r=true:=by rw[←hr,decide_eq_true rfl,Bool.true_or]
   subst hrt
   clear hr q qa hf
   go_enter Tryz.func88,Tryz.ntmps88
   go_upto_region 2 with
    (first
      |(go_at_call 74;(with_reducible refine(HB.out _ _ (h.below (below_alloc _ _)) (hT.below (below_alloc _ _))).mono ?_);rintro e w1 ⟨vx1,rfl,x1,hb1⟩;have B1:=(below_alloc _ _).trans (hb1.mono (below_alloc _ _).size);have m1:=((h.below (below_alloc _ _))).below hb1;have T1:=((hT.below (below_alloc _ _))).below hb1;have P1:=((blk_new)).below hb1;obtain⟨cP0_1,cP1_1,cP2_1,fP0_1,fP1_1,fP2_1,sP_1⟩:=P1.open3;obtain⟨ax1,kx1,rfl,-⟩:=x1.view;try simp only[List.length_nil]at x1)
      |fail)
   have x2:=x1.set3 P1 dcells (.bool n') (.slice ax1 (digs BB 0).length kx1) (.int .i64 E)
   have P4:=P1.set3 (.bool n') (.slice ax1 (digs BB 0).length kx1) (.int .i64 E)
   have B2:=below_set3 B1 (Nat.le_refl _) (.bool n') (.slice ax1 (digs BB 0).length kx1) (.int .i64 E)
   have T4:=T1.set3 (Nat.ne_of_lt hT.lt) (.bool n') (.slice ax1 (digs BB 0).length kx1) (.int .i64 E)
   clear x1 P1 B1 T1 m1 cP0_1 cP1_1 cP2_1 fP0_1 fP1_1 fP2_1 sP_1 hb1
   generalize ((w1.setCell ⟨w.heap.size,0,none⟩ (.bool n')).setCell ⟨w.heap.size,1,none⟩ (.slice ax1 (digs BB 0).length kx1)).setCell ⟨w.heap.size,2,none⟩ (.int .i64 E)=w2 at*
   obtain⟨cP0_1,cP1_1,cP2_1,fP0_1,fP1_1,fP2_1,sP_1⟩:=P4.open3
   go_wp2_with
    (first
      |(go_at_call 69;(with_reducible refine(HT.out _ _ (x2.num (by omega)) T4).mono ?_);rintro e w11 ⟨rfl,hb11⟩;have B11:=B2.trans (hb11.mono B2.size);have x11:=x2.below hb11;have T11:=T4.below hb11;have P11:=P4.below hb11;clear x2 T4 P4;obtain⟨cP0_11,cP1_11,cP2_11,fP0_11,fP1_11,fP2_11,sP_11⟩:=P11.open3)
      |fail)
   all_goals
    go_ret
    exact⟨rfl,by assumption⟩
  ·have HT:=Lib.hid (fun w v (h:Num w v M) (hT:Tab w)=>Top_n h hT (by omega) (by omega) qa h0)
   obtain⟨t,ht⟩:∃t,topD ⟨n',M,E⟩=t:=⟨_,rfl⟩
   have htr:t≤2560000+1073741824∧-1073741824≤t:=by
    have hb:bitN M≠0:=fun e=>h0 (by have:=bitN_lt M;rw[e]at this;omega)
    unfold topD at ht
    dsimp only at ht
    omega
   rw[ht]at HT
   rw[decide_eq_false h0,Bool.false_or]at hr
   unfold isBrk at hr
   have ht2:topD ⟨false,M,E⟩=t:=ht
   rw[ht2]at hr
   obtain⟨b,hb⟩:∃b,bitN M=b:=⟨_,rfl⟩
   rw[hb]at hr
   have eb:=Lib.hid hb
   have sb:bitN M≤2560000:=sM
   clear hb ht ht2
   by_cases hbig:1023<t
   ·rw[if_pos hbig]at hr
    have d1:decide (1023<t)=true:=decide_eq_true hbig
    by_cases hE:E=1024
    ·have dE:(E==1024)=true:=by rw[hE];rfl
     have hr2:((b:Int)==1)=r:=by
      rw[←hr,decide_eq_true hE,Bool.true_and]
      by_cases hb1:b=1
      ·rw[hb1];rfl
      ·rw[decide_eq_false hb1];exact beq_eq_false_iff_ne.2 (by omega)
     clear hr q qa hf hE
     go_enter Tryz.func88,Tryz.ntmps88
     go_upto_region 2 with
      (first
        |(go_at_call 74;(with_reducible refine(HB.out _ _ (h.below (below_alloc _ _)) (hT.below (below_alloc _ _))).mono ?_);rintro e w1 ⟨vx1,rfl,x1,hb1⟩;have B1:=(below_alloc _ _).trans (hb1.mono (below_alloc _ _).size);have m1:=((h.below (below_alloc _ _))).below hb1;have T1:=((hT.below (below_alloc _ _))).below hb1;have P1:=((blk_new)).below hb1;obtain⟨cP0_1,cP1_1,cP2_1,fP0_1,fP1_1,fP2_1,sP_1⟩:=P1.open3;obtain⟨ax1,kx1,rfl,-⟩:=x1.view;try simp only[List.length_nil]at x1)
        |fail)
     have x2:=x1.set3 P1 dcells (.bool n') (.slice ax1 (digs BB M).length kx1) (.int .i64 E)
     have P4:=P1.set3 (.bool n') (.slice ax1 (digs BB M).length kx1) (.int .i64 E)
     have B2:=below_set3 B1 (Nat.le_refl _) (.bool n') (.slice ax1 (digs BB M).length kx1) (.int .i64 E)
     have T4:=T1.set3 (Nat.ne_of_lt hT.lt) (.bool n') (.slice ax1 (digs BB M).length kx1) (.int .i64 E)
     clear x1 P1 B1 T1 m1 cP0_1 cP1_1 cP2_1 fP0_1 fP1_1 fP2_1 sP_1 hb1
     generalize ((w1.setCell ⟨w.heap.size,0,none⟩ (.bool n')).setCell ⟨w.heap.size,1,none⟩ (.slice ax1 (digs BB M).length kx1)).setCell ⟨w.heap.size,2,none⟩ (.int .i64 E)=w2 at*
     obtain⟨cP0_1,cP1_1,cP2_1,fP0_1,fP1_1,fP2_1,sP_1⟩:=P4.open3
     go_wp2_with
      (first
        |(go_at_call 69;(with_reducible refine(HT.out _ _ (x2.num (by omega)) T4).mono ?_);rintro e w11 ⟨rfl,hb11⟩;have B11:=B2.trans (hb11.mono B2.size);have x11:=x2.below hb11;have T11:=T4.below hb11;have P11:=P4.below hb11;clear x2 T4 P4;obtain⟨cP0_11,cP1_11,cP2_11,fP0_11,fP1_11,fP2_11,sP_11⟩:=P11.open3)
        |(go_at_call 48;(with_reducible refine(bits_n (x11.num (by omega)) eb.out).mono ?_);rintro e w12 ⟨rfl,hb12⟩;have B12:=B11.trans (hb12.mono B11.size);have x12:=x11.below hb12;have T12:=T11.below hb12;have P12:=P11.below hb12;clear x11 T11 P11;clear cP0_11 cP1_11 cP2_11 fP0_11 fP1_11 fP2_11 sP_11;obtain⟨cP0_12,cP1_12,cP2_12,fP0_12,fP1_12,fP2_12,sP_12⟩:=P12.open3)
        |fail)
     all_goals
      go_ret
      exact⟨rfl,by assumption⟩
    ·have dE:(E==1024)=false:=beq_eq_false_iff_ne.2 hE
     have hrf:r=false:=by rw[←hr,decide_eq_false hE,Bool.false_and]
     subst hrf
     clear hr q qa hf hE
     go_enter Tryz.func88,Tryz.ntmps88
     go_upto_region 2 with
      (first
        |(go_at_call 74;(with_reducible refine(HB.out _ _ (h.below (below_alloc _ _)) (hT.below (below_alloc _ _))).mono ?_);rintro e w1 ⟨vx1,rfl,x1,hb1⟩;have B1:=(below_alloc _ _).trans (hb1.mono (below_alloc _ _).size);have m1:=((h.below (below_alloc _ _))).below hb1;have T1:=((hT.below (below_alloc _ _))).below hb1;have P1:=((blk_new)).below hb1;obtain⟨cP0_1,cP1_1,cP2_1,fP0_1,fP1_1,fP2_1,sP_1⟩:=P1.open3;obtain⟨ax1,kx1,rfl,-⟩:=x1.view;try simp only[List.length_nil]at x1)
        |fail)
     have x2:=x1.set3 P1 dcells (.bool n') (.slice ax1 (digs BB M).length kx1) (.int .i64 E)
     have P4:=P1.set3 (.bool n') (.slice ax1 (digs BB M).length kx1) (.int .i64 E)
     have B2:=below_set3 B1 (Nat.le_refl _) (.bool n') (.slice ax1 (digs BB M).length kx1) (.int .i64 E)
     have T4:=T1.set3 (Nat.ne_of_lt hT.lt) (.bool n') (.slice ax1 (digs BB M).length kx1) (.int .i64 E)
     clear x1 P1 B1 T1 m1 cP0_1 cP1_1 cP2_1 fP0_1 fP1_1 fP2_1 sP_1 hb1
     generalize ((w1.setCell ⟨w.heap.size,0,none⟩ (.bool n')).setCell ⟨w.heap.size,1,none⟩ (.slice ax1 (digs BB M).length kx1)).setCell ⟨w.heap.size,2,none⟩ (.int .i64 E)=w2 at*
     obtain⟨cP0_1,cP1_1,cP2_1,fP0_1,fP1_1,fP2_1,sP_1⟩:=P4.open3
     go_wp2_with
      (first
        |(go_at_call 69;(with_reducible refine(HT.out _ _ (x2.num (by omega)) T4).mono ?_);rintro e w11 ⟨rfl,hb11⟩;have B11:=B2.trans (hb11.mono B2.size);have x11:=x2.below hb11;have T11:=T4.below hb11;have P11:=P4.below hb11;clear x2 T4 P4;obtain⟨cP0_11,cP1_11,cP2_11,fP0_11,fP1_11,fP2_11,sP_11⟩:=P11.open3)
        |(go_at_call 48;(with_reducible refine(bits_n (x11.num (by omega)) eb.out).mono ?_);rintro e w12 ⟨rfl,hb12⟩;have B12:=B11.trans (hb12.mono B11.size);have x12:=x11.below hb12;have T12:=T11.below hb12;have P12:=P11.below hb12;clear x11 T11 P11;clear cP0_11 cP1_11 cP2_11 fP0_11 fP1_11 fP2_11 sP_11;obtain⟨cP0_12,cP1_12,cP2_12,fP0_12,fP1_12,fP2_12,sP_12⟩:=P12.open3)
        |fail)
     all_goals
      go_ret
      exact⟨rfl,by assumption⟩
   ·rw[if_neg hbig]at hr
    have d1:decide (1023<t)=false:=decide_eq_false hbig
    have w1':IntKind.i64.wrap (t-52)=t-52:=by rw[IntKind.wrap_i64];omega
    obtain⟨mx,hmx⟩:∃m,max (t-52) (-1074)=m:=⟨_,rfl⟩
    have w2':IntKind.i64.wrap (mx-1)=mx-1:=by rw[IntKind.wrap_i64];omega
    rw[hmx]at hr
    clear q qa hf
    go_enter Tryz.func88,Tryz.ntmps88
    go_upto_region 2 with
     (first
       |(go_at_call 74;(with_reducible refine(HB.out _ _ (h.below (below_alloc _ _)) (hT.below (below_alloc _ _))).mono ?_);rintro e w1 ⟨vx1,rfl,x1,hb1⟩;have B1:=(below_alloc _ _).trans (hb1.mono (below_alloc _ _).size);have m1:=((h.below (below_alloc _ _))).below hb1;have T1:=((hT.below (below_alloc _ _))).below hb1;have P1:=((blk_new)).below hb1;obtain⟨cP0_1,cP1_1,cP2_1,fP0_1,fP1_1,fP2_1,sP_1⟩:=P1.open3;obtain⟨ax1,kx1,rfl,-⟩:=x1.view;try simp only[List.length_nil]at x1)
       |fail)
    have x2:=x1.set3 P1 dcells (.bool n') (.slice ax1 (digs BB M).length kx1) (.int .i64 E)
    have P4:=P1.set3 (.bool n') (.slice ax1 (digs BB M).length kx1) (.int .i64 E)
    have B2:=below_set3 B1 (Nat.le_refl _) (.bool n') (.slice ax1 (digs BB M).length kx1) (.int .i64 E)
    have T4:=T1.set3 (Nat.ne_of_lt hT.lt) (.bool n') (.slice ax1 (digs BB M).length kx1) (.int .i64 E)
    clear x1 P1 B1 T1 m1 cP0_1 cP1_1 cP2_1 fP0_1 fP1_1 fP2_1 sP_1 hb1
    generalize ((w1.setCell ⟨w.heap.size,0,none⟩ (.bool n')).setCell ⟨w.heap.size,1,none⟩ (.slice ax1 (digs BB M).length kx1)).setCell ⟨w.heap.size,2,none⟩ (.int .i64 E)=w2 at*
    obtain⟨cP0_1,cP1_1,cP2_1,fP0_1,fP1_1,fP2_1,sP_1⟩:=P4.open3
    go_wp2_with
     (first
       |(go_at_call 69;(with_reducible refine(HT.out _ _ (x2.num (by omega)) T4).mono ?_);rintro e w11 ⟨rfl,hb11⟩;have B11:=B2.trans (hb11.mono B2.size);have x11:=x2.below hb11;have T11:=T4.below hb11;have P11:=P4.below hb11;clear x2 T4 P4;obtain⟨cP0_11,cP1_11,cP2_11,fP0_11,fP1_11,fP2_11,sP_11⟩:=P11.open3)
       |fail)
    all_goals
     go_ret
     exact⟨rfl,by assumption⟩
 ·have HB:=Lib.hid (fun w v (h:Num w v A) (hT:Tab w)=>Bare_long h hT h1 h2 q (by simpa using hf))
  have HT:=Lib.hid (fun w (hT:Tab w)=>Top_z (neg:=false) (E:=0) (Num.nil w) hT (by decide) (by decide))
  have hrf:r=false:=by rw[←hr];simp[hf]
  subst hrf
  clear hr q hf
  go_enter Tryz.func88,Tryz.ntmps88
  go_upto_region 2 with
   (first
     |(go_at_call 74;(with_reducible refine(HB.out _ _ (h.below (below_alloc _ _)) (hT.below (below_alloc _ _))).mono ?_);rintro e w1 ⟨rfl,hb1⟩;have B1:=(below_alloc _ _).trans (hb1.mono (below_alloc _ _).size);have m1:=((h.below (below_alloc _ _))).below hb1;have T1:=((hT.below (below_alloc _ _))).below hb1;have P1:=((blk_new)).below hb1;obtain⟨cP0_1,cP1_1,cP2_1,fP0_1,fP1_1,fP2_1,sP_1⟩:=P1.open3)
     |fail)
  have P4:=P1.set3 (.bool false) (.slice none 0 0) (.int .i64 0)
  have B2:=below_set3 B1 (Nat.le_refl _) (.bool false) (.slice none 0 0) (.int .i64 0)
  have T4:=T1.set3 (Nat.ne_of_lt hT.lt) (.bool false) (.slice none 0 0) (.int .i64 0)
  clear P1 B1 T1 m1 cP0_1 cP1_1 cP2_1 fP0_1 fP1_1 fP2_1 sP_1 hb1
  generalize ((w1.setCell ⟨w.heap.size,0,none⟩ (.bool false)).setCell ⟨w.heap.size,1,none⟩ (.slice none 0 0)).setCell ⟨w.heap.size,2,none⟩ (.int .i64 0)=w2 at*
  obtain⟨cP0_1,cP1_1,cP2_1,fP0_1,fP1_1,fP2_1,sP_1⟩:=P4.open3
  go_wp2_with
   (first
     |(go_at_call 69;(with_reducible refine(HT.out _ T4).mono ?_);rintro e w11 ⟨rfl,hb11⟩;have B11:=B2.trans (hb11.mono B2.size);have T11:=T4.below hb11;have P11:=P4.below hb11;clear T4 P4;obtain⟨cP0_11,cP1_11,cP2_11,fP0_11,fP1_11,fP2_11,sP_11⟩:=P11.open3)
     |fail)
  all_goals
   go_ret
   exact⟨rfl,by assumption⟩
end Go.Proofs.YtffaefjkpipjnaaGreatDoor
