/- logs.Near by its contract. Conditions: the numbers are short; math/bits' table stands in its variable. -/
import Derived.Test.YtffaefjkpipjnaaGreatDoorPkC21
import Derived.Test.YtffaefjkpipjnaaGreatDoorPkC13
import Derived.Test.YtffaefjkpipjnaaGreatDoorPkC19
namespace Go.Proofs.YtffaefjkpipjnaaGreatDoor
set_option maxRecDepth 100000
open Go.RowKit Go.ChangeShapes Go.WideShapes
set_option linter.unusedVariables false
theorem results_tmp5 {fn:Func}{t u v x y:Tmp}(h:fn.results= #[.tmp t,.tmp u,.tmp v,.tmp x,.tmp y]) (tmps:Array Value) (P:Program) (w:World):
 (results fn tmps).run P w= .ok (.tuple #[tmps.getD t undef,tmps.getD u undef,tmps.getD v undef,tmps.getD x undef,tmps.getD y undef]) w:=by
 simp[results,h]
theorem bareD_nought {neg:Bool}{M:Nat}{E:Int}(h:M=0):bareD ⟨neg,M,E⟩=⟨false,0,0⟩:=bareD_zero h
theorem Top_zero {w:World}{v:Value}{neg:Bool}{E:Int}(h:Num w v 0) (hT:Tab w) (h1: -9223372036854775808≤E) (h2:E≤9223372036854775807):
 Calls Tryz.prog 69 #[.agg #[.bool neg,v,.int .i64 E]] w (fun e w'=>e= .returned (.tuple #[.int .i64 0,.bool false])∧Below w.heap.size w w'):=by
 obtain⟨a,n,k,rfl⟩:=h.slice
 have HB:=Lib.hid (fun w v (h:Num w v 0) (hT:Tab w)=>bare_d (neg:=neg) (E:=E) h hT h1 h2 (bareD_nought rfl))
 have dz:(digs BB 0).length=0:=by rw[digs_zero];rfl
 go_enter Tryz.func69,Tryz.ntmps69
 go_wp2_with
  (first
    |(go_at_call 80;(with_reducible refine(HB.out _ _ (h.below (below_alloc _ _)) (hT.below (below_alloc _ _))).mono ?_);rintro e w1 ⟨vd1,rfl,d1,hb1⟩;have B1:=(below_alloc _ _).trans (hb1.mono (below_alloc _ _).size);have m1:=((h.below (below_alloc _ _))).below hb1;have T1:=((hT.below (below_alloc _ _))).below hb1;have P1:=((blk_new)).below hb1;obtain⟨cP0_1,cP1_1,cP2_1,fP0_1,fP1_1,fP2_1,sP_1⟩:=P1.open3;obtain⟨ud1,rfl,d1⟩:=d1;obtain⟨ad1,kd1,rfl,-⟩:=d1.view)
    |fail)
 go_ret2
 exact⟨by simp,below_set3 B1 (Nat.le_refl _) _ _ _⟩
def nearOk (d:Dn):Bool:=fitsE (bareD d).e&&!(bareD d).neg&&decide ((bareD d).m≠0)&&decide (bitN (bareD d).m≤4000)&&decide (-1048576≤topD (bareD d))&&decide (topD (bareD d)≤1048576)
set_option maxHeartbeats 4000000 in
theorem Near_ok {w:World}{v:Value}{neg:Bool}{M M' N D:Nat}{E E' e:Int}{ng:Bool}(h:Num w v M) (hT:Tab w) (h1: -9223372036854775808≤E) (h2:E≤9223372036854775807)
 (q:bareD ⟨neg,M,E⟩=⟨false,M',E'⟩) (hf:fitsE E'=true) (h0:M'≠0) (sM:bitN M'≤4000) (t1: -1048576≤topD ⟨false,M',E'⟩) (t2:topD ⟨false,M',E'⟩≤1048576)
 (hN:nearN M'=N) (hD:M'+nearP M'=D) (hg:decide (M'<nearP M')=ng) (he:nearE M' E'=e):
 Calls Tryz.prog 63 #[.agg #[.bool neg,v,.int .i64 E]] w (fun r w'=>∃x y,r= .returned (.tuple #[x,y,.bool ng,.int .i64 e,.bool true])∧RdN w' x (digs BB N)∧RdN w' y (digs BB D)∧Below w.heap.size w w'):=by
 obtain⟨a,n,k,rfl⟩:=h.slice
 have r1: -1073741824≤E'∧E'≤1073741824:=by unfold fitsE at hf;simp at hf;exact hf
 have qa:=bareD_again q (by omega) (by omega)
 have HB:=Lib.hid (fun w v (h:Num w v M) (hT:Tab w)=>Bare_ok h hT h1 h2 q hf)
 have HT:=Lib.hid (fun w v (h:Num w v M') (hT:Tab w)=>Top_n h hT (by omega) (by omega) qa h0)
 have HS:=Lib.hid (fun w v (h:Num w v M')=>Sign_n (neg:=false) (E:=E') (s:=1) h (by unfold signD;rw[if_neg h0];rfl))
 obtain⟨p1,p2⟩:=topn_le h0
 obtain⟨b,hb⟩:∃b,bitN M'=b:=⟨_,rfl⟩
 have eb:=Lib.hid hb
 have hb0:b≠0:=fun e=>by rw[e]at hb;exact h0 (eq_zero_of_bitN hb)
 obtain⟨c,hc⟩:∃c,b-1=c:=⟨_,rfl⟩
 obtain⟨P,hP⟩:∃P,2^c=P:=⟨_,rfl⟩
 obtain⟨t,ht⟩:∃t,topD ⟨false,M',E'⟩=t:=⟨_,rfl⟩
 rw[ht]at HT t1 t2
 unfold nearN nearP at hN
 unfold nearP at hD hg
 unfold nearE at he
 rw[ht]at he
 rw[hb,hc,hP]at hN hD hg he p1 p2
 have sP:bitN P≤4000:=Nat.le_trans (bitN_mono p1) (by omega)
 have d1:decide (4000<(b:Int))=false:=decide_eq_false (by omega)
 have d2:decide (t< -1048576)=false:=decide_eq_false (by omega)
 have d3:decide (1048576<t)=false:=decide_eq_false (by omega)
 have w1:IntKind.i64.wrap ((b:Int)-1)=(c:Int):=by rw[IntKind.wrap_i64];omega
 have HSH:Hid (∀w v,Num w v 1→Calls Tryz.prog 100 #[v,.int .i64 (c:Int)] w (OneZ w P)):=Lib.hid (fun w v h=>shl_n (n:=c) h (by rw[Nat.one_mul];exact hP) (by rw[bitN_one];omega))
 obtain⟨T2,hT2⟩:∃x,M'+M'=x:=⟨_,rfl⟩
 have ET:=Lib.hid hT2
 have sT:bitN T2≤2560000:=by rw[←hT2];exact Nat.le_trans (bitN_add_le _ _) (by omega)
 obtain⟨P2,hP2⟩:∃x,P+P=x:=⟨_,rfl⟩
 have EP:=Lib.hid hP2
 have sP2:bitN P2≤10000:=by rw[←hP2];exact Nat.le_trans (bitN_add_le _ _) (by omega)
 obtain⟨P3,hP3⟩:∃x,P+P2=x:=⟨_,rfl⟩
 have EP3:=Lib.hid hP3
 have sP3:bitN P3≤2560000:=by rw[←hP3];exact Nat.le_trans (bitN_add_le _ _) (by omega)
 have sO:bitN 1≤2560000:=by rw[bitN_one];omega
 obtain⟨c1,hc1⟩:∃c,cmpN T2 P3=c:=⟨_,rfl⟩
 have EC:=Lib.hid hc1
 have hi3:(3*P≤2*M')↔(P3≤T2):=by omega
 clear hf h0 ht
 by_cases hhi:P3≤T2
 ·have dc:decide (0≤c1)=true:=decide_eq_true (by have:=cmpN_ge' hhi;omega)
  rw[if_pos (hi3.2 hhi),hP2]at hN hD hg
  rw[if_pos (hi3.2 hhi)]at he
  have hlt:M'<P2:=by omega
  rw[if_pos hlt]at hN
  have hng:ng=true:=by rw[←hg];exact decide_eq_true hlt
  subst hng
  have EN:=Lib.hid (show M'+N=P2 by omega)
  have ED:=Lib.hid hD
  have Hlt:=Lib.hid hlt
  have w2:IntKind.i64.wrap (t+1)=e:=by rw[IntKind.wrap_i64];omega
  clear q qa hN hD hg he hi3 hhi p1 p2 hc1 hP2 hP3 hT2 hP hlt hb
  go_enter Tryz.func63,Tryz.ntmps63
  go_upto_region 2 with
   (first
     |(go_at_call 74;(with_reducible refine(HB.out _ _ (h.below (below_alloc _ _)) (hT.below (below_alloc _ _))).mono ?_);rintro e w1 ⟨vx1,rfl,x1,hb1⟩;have B1:=(below_alloc _ _).trans (hb1.mono (below_alloc _ _).size);have m1:=((h.below (below_alloc _ _))).below hb1;have T1:=((hT.below (below_alloc _ _))).below hb1;have P1:=((blk_new)).below hb1;obtain⟨cP0_1,cP1_1,cP2_1,fP0_1,fP1_1,fP2_1,sP_1⟩:=P1.open3;obtain⟨ax1,kx1,rfl,-⟩:=x1.view;try simp only[List.length_nil]at x1)
     |fail)
  have x2:=x1.set3 P1 dcells (.bool false) (.slice ax1 (digs BB M').length kx1) (.int .i64 E')
  have P4:=P1.set3 (.bool false) (.slice ax1 (digs BB M').length kx1) (.int .i64 E')
  have B2:=below_set3 B1 (Nat.le_refl _) (.bool false) (.slice ax1 (digs BB M').length kx1) (.int .i64 E')
  have T4:=T1.set3 (Nat.ne_of_lt hT.lt) (.bool false) (.slice ax1 (digs BB M').length kx1) (.int .i64 E')
  clear x1 P1 B1 T1 m1 cP0_1 cP1_1 cP2_1 fP0_1 fP1_1 fP2_1 sP_1 hb1
  generalize ((w1.setCell ⟨w.heap.size,0,none⟩ (.bool false)).setCell ⟨w.heap.size,1,none⟩ (.slice ax1 (digs BB M').length kx1)).setCell ⟨w.heap.size,2,none⟩ (.int .i64 E')=w2 at*
  obtain⟨cP0_1,cP1_1,cP2_1,fP0_1,fP1_1,fP2_1,sP_1⟩:=P4.open3
  go_wp2_with
   (first
     |(go_at_call 69;(with_reducible refine(HT.out _ _ (x2.num (by omega)) T4).mono ?_);rintro e w11 ⟨rfl,hb11⟩;have B11:=B2.trans (hb11.mono B2.size);have x11:=x2.below hb11;have T11:=T4.below hb11;have P11:=P4.below hb11;clear x2 T4 P4;obtain⟨cP0_11,cP1_11,cP2_11,fP0_11,fP1_11,fP2_11,sP_11⟩:=P11.open3)
     |(go_at_call 26;(with_reducible refine(HS.out _ _ (x11.num (by omega))).mono ?_);rintro e w12 ⟨rfl,hb12⟩;have B12:=B11.trans (hb12.mono B11.size);have x12:=x11.below hb12;have T12:=T11.below hb12;have P12:=P11.below hb12;clear x11 T11 P11;clear cP0_11 cP1_11 cP2_11 fP0_11 fP1_11 fP2_11 sP_11;obtain⟨cP0_12,cP1_12,cP2_12,fP0_12,fP1_12,fP2_12,sP_12⟩:=P12.open3)
     |(go_at_call 48;(with_reducible refine(bits_n (x12.num (by omega)) eb.out).mono ?_);rintro e w13 ⟨rfl,hb13⟩;have B13:=B12.trans (hb13.mono B12.size);have x13:=x12.below hb13;have T13:=T12.below hb13;have P13:=P12.below hb13;clear x12 T12 P12;clear cP0_12 cP1_12 cP2_12 fP0_12 fP1_12 fP2_12 sP_12;obtain⟨cP0_13,cP1_13,cP2_13,fP0_13,fP1_13,fP2_13,sP_13⟩:=P13.open3)
     |(go_at_call 48;(with_reducible refine(bits_n (x13.num (by omega)) eb.out).mono ?_);rintro e w14 ⟨rfl,hb14⟩;have B14:=B13.trans (hb14.mono B13.size);have x14:=x13.below hb14;have T14:=T13.below hb14;have P14:=P13.below hb14;clear x13 T13 P13;clear cP0_13 cP1_13 cP2_13 fP0_13 fP1_13 fP2_13 sP_13;obtain⟨cP0_14,cP1_14,cP2_14,fP0_14,fP1_14,fP2_14,sP_14⟩:=P14.open3)
     |(go_at_call 101;(with_reducible refine(of_1).mono ?_);rintro e w15 ⟨vo15,rfl,o15,hb15⟩;have B15:=B14.trans (hb15.mono B14.size);have x15:=x14.below hb15;have T15:=T14.below hb15;have P15:=P14.below hb15;clear x14 T14 P14;clear cP0_14 cP1_14 cP2_14 fP0_14 fP1_14 fP2_14 sP_14;obtain⟨cP0_15,cP1_15,cP2_15,fP0_15,fP1_15,fP2_15,sP_15⟩:=P15.open3)
     |(go_at_call 100;(with_reducible refine(HSH.out _ _ (o15.num sO)).mono ?_);rintro e w16 ⟨vp16,rfl,p16,hb16⟩;have B16:=B15.trans (hb16.mono B15.size);have x16:=x15.below hb16;have T16:=T15.below hb16;have P16:=P15.below hb16;have o16:=o15.below hb16;clear x15 T15 P15 o15;clear cP0_15 cP1_15 cP2_15 fP0_15 fP1_15 fP2_15 sP_15;obtain⟨cP0_16,cP1_16,cP2_16,fP0_16,fP1_16,fP2_16,sP_16⟩:=P16.open3)
     |(go_at_call 108;(with_reducible refine(add_n (x16.num (by omega)) (x16.num (by omega)) ET.out).mono ?_);rintro e w17 ⟨vt17,rfl,t17,hb17⟩;have B17:=B16.trans (hb17.mono B16.size);have x17:=x16.below hb17;have T17:=T16.below hb17;have P17:=P16.below hb17;have o17:=o16.below hb17;have p17:=p16.below hb17;clear x16 T16 P16 o16 p16;clear cP0_16 cP1_16 cP2_16 fP0_16 fP1_16 fP2_16 sP_16;obtain⟨cP0_17,cP1_17,cP2_17,fP0_17,fP1_17,fP2_17,sP_17⟩:=P17.open3)
     |(go_at_call 108;(with_reducible refine(add_n (p17.num (by omega)) (p17.num (by omega)) EP.out).mono ?_);rintro e w18 ⟨vr18,rfl,r18,hb18⟩;have B18:=B17.trans (hb18.mono B17.size);have x18:=x17.below hb18;have T18:=T17.below hb18;have P18:=P17.below hb18;have o18:=o17.below hb18;have p18:=p17.below hb18;have t18:=t17.below hb18;clear x17 T17 P17 o17 p17 t17;clear cP0_17 cP1_17 cP2_17 fP0_17 fP1_17 fP2_17 sP_17;obtain⟨cP0_18,cP1_18,cP2_18,fP0_18,fP1_18,fP2_18,sP_18⟩:=P18.open3)
     |(go_at_call 108;(with_reducible refine(add_n (p18.num (by omega)) (r18.num (by omega)) EP3.out).mono ?_);rintro e w19 ⟨vs19,rfl,s19,hb19⟩;have B19:=B18.trans (hb19.mono B18.size);have x19:=x18.below hb19;have T19:=T18.below hb19;have P19:=P18.below hb19;have o19:=o18.below hb19;have p19:=p18.below hb19;have t19:=t18.below hb19;have r19:=r18.below hb19;clear x18 T18 P18 o18 p18 t18 r18;clear cP0_18 cP1_18 cP2_18 fP0_18 fP1_18 fP2_18 sP_18;obtain⟨cP0_19,cP1_19,cP2_19,fP0_19,fP1_19,fP2_19,sP_19⟩:=P19.open3)
     |(go_at_call 102;(with_reducible refine(cmp_n (t19.num sT) (s19.num sP3) EC.out).mono ?_);rintro e w20 ⟨rfl,hb20⟩;have B20:=B19.trans (hb20.mono B19.size);have x20:=x19.below hb20;have T20:=T19.below hb20;have P20:=P19.below hb20;have o20:=o19.below hb20;have p20:=p19.below hb20;have t20:=t19.below hb20;have r20:=r19.below hb20;have s20:=s19.below hb20;clear x19 T19 P19 o19 p19 t19 r19 s19;clear cP0_19 cP1_19 cP2_19 fP0_19 fP1_19 fP2_19 sP_19;obtain⟨cP0_20,cP1_20,cP2_20,fP0_20,fP1_20,fP2_20,sP_20⟩:=P20.open3)
     |(go_at_call 108;(with_reducible refine(add_n (p20.num (by omega)) (p20.num (by omega)) EP.out).mono ?_);rintro e w21 ⟨vq21,rfl,q21,hb21⟩;have B21:=B20.trans (hb21.mono B20.size);have x21:=x20.below hb21;have T21:=T20.below hb21;have P21:=P20.below hb21;have o21:=o20.below hb21;have p21:=p20.below hb21;have t21:=t20.below hb21;have r21:=r20.below hb21;have s21:=s20.below hb21;clear x20 T20 P20 o20 p20 t20 r20 s20;clear cP0_20 cP1_20 cP2_20 fP0_20 fP1_20 fP2_20 sP_20;obtain⟨cP0_21,cP1_21,cP2_21,fP0_21,fP1_21,fP2_21,sP_21⟩:=P21.open3)
     |(go_at_call 108;(with_reducible refine(add_n (x21.num (by omega)) (q21.num (by omega)) ED.out).mono ?_);rintro e w22 ⟨vd22,rfl,d22,hb22⟩;have B22:=B21.trans (hb22.mono B21.size);have x22:=x21.below hb22;have T22:=T21.below hb22;have P22:=P21.below hb22;have o22:=o21.below hb22;have p22:=p21.below hb22;have t22:=t21.below hb22;have r22:=r21.below hb22;have s22:=s21.below hb22;have q22:=q21.below hb22;clear x21 T21 P21 o21 p21 t21 r21 s21 q21;clear cP0_21 cP1_21 cP2_21 fP0_21 fP1_21 fP2_21 sP_21;obtain⟨cP0_22,cP1_22,cP2_22,fP0_22,fP1_22,fP2_22,sP_22⟩:=P22.open3)
     |(go_at_call 109;(with_reducible refine(sub_under (x22.num (by omega)) (q22.num (by omega)) Hlt.out).mono ?_);rintro e w23 ⟨vu23,rfl,u23,hb23⟩;have B23:=B22.trans (hb23.mono B22.size);have x23:=x22.below hb23;have T23:=T22.below hb23;have P23:=P22.below hb23;have o23:=o22.below hb23;have p23:=p22.below hb23;have t23:=t22.below hb23;have r23:=r22.below hb23;have s23:=s22.below hb23;have q23:=q22.below hb23;have d23:=d22.below hb23;clear x22 T22 P22 o22 p22 t22 r22 s22 q22 d22;clear cP0_22 cP1_22 cP2_22 fP0_22 fP1_22 fP2_22 sP_22;obtain⟨cP0_23,cP1_23,cP2_23,fP0_23,fP1_23,fP2_23,sP_23⟩:=P23.open3)
     |(go_at_call 109;(with_reducible refine(sub_n (q23.num (by omega)) (x23.num (by omega)) EN.out).mono ?_);rintro e w24 ⟨vn24,rfl,n24,hb24⟩;have B24:=B23.trans (hb24.mono B23.size);have x24:=x23.below hb24;have T24:=T23.below hb24;have P24:=P23.below hb24;have o24:=o23.below hb24;have p24:=p23.below hb24;have t24:=t23.below hb24;have r24:=r23.below hb24;have s24:=s23.below hb24;have q24:=q23.below hb24;have d24:=d23.below hb24;have u24:=u23.below hb24;clear x23 T23 P23 o23 p23 t23 r23 s23 q23 d23 u23;clear cP0_23 cP1_23 cP2_23 fP0_23 fP1_23 fP2_23 sP_23;obtain⟨cP0_24,cP1_24,cP2_24,fP0_24,fP1_24,fP2_24,sP_24⟩:=P24.open3)
     |fail)
  (try simp only[Exit.inBlock,Exit.then])
  refine bodyPost_ret (results_tmp5 rfl _ _ _) rfl ?_
  exact⟨_,_,rfl,n24,d24,by assumption⟩
 ·have dc:decide (0≤c1)=false:=decide_eq_false (by have:=cmpN_lt (show T2<P3 by omega);omega)
  rw[if_neg (fun hh=>hhi (hi3.1 hh))]at hN hD hg he
  have hlt:¬M'<P:=by omega
  rw[if_neg hlt]at hN
  have hng:ng=false:=by rw[←hg];exact decide_eq_false hlt
  subst hng
  subst he
  have EN:=Lib.hid (show P+N=M' by omega)
  have ED:=Lib.hid hD
  clear q qa hN hD hg hi3 hhi p1 p2 hc1 hP2 hP3 hT2 hP hlt hb
  go_enter Tryz.func63,Tryz.ntmps63
  go_upto_region 2 with
   (first
     |(go_at_call 74;(with_reducible refine(HB.out _ _ (h.below (below_alloc _ _)) (hT.below (below_alloc _ _))).mono ?_);rintro e w1 ⟨vx1,rfl,x1,hb1⟩;have B1:=(below_alloc _ _).trans (hb1.mono (below_alloc _ _).size);have m1:=((h.below (below_alloc _ _))).below hb1;have T1:=((hT.below (below_alloc _ _))).below hb1;have P1:=((blk_new)).below hb1;obtain⟨cP0_1,cP1_1,cP2_1,fP0_1,fP1_1,fP2_1,sP_1⟩:=P1.open3;obtain⟨ax1,kx1,rfl,-⟩:=x1.view;try simp only[List.length_nil]at x1)
     |fail)
  have x2:=x1.set3 P1 dcells (.bool false) (.slice ax1 (digs BB M').length kx1) (.int .i64 E')
  have P4:=P1.set3 (.bool false) (.slice ax1 (digs BB M').length kx1) (.int .i64 E')
  have B2:=below_set3 B1 (Nat.le_refl _) (.bool false) (.slice ax1 (digs BB M').length kx1) (.int .i64 E')
  have T4:=T1.set3 (Nat.ne_of_lt hT.lt) (.bool false) (.slice ax1 (digs BB M').length kx1) (.int .i64 E')
  clear x1 P1 B1 T1 m1 cP0_1 cP1_1 cP2_1 fP0_1 fP1_1 fP2_1 sP_1 hb1
  generalize ((w1.setCell ⟨w.heap.size,0,none⟩ (.bool false)).setCell ⟨w.heap.size,1,none⟩ (.slice ax1 (digs BB M').length kx1)).setCell ⟨w.heap.size,2,none⟩ (.int .i64 E')=w2 at*
  obtain⟨cP0_1,cP1_1,cP2_1,fP0_1,fP1_1,fP2_1,sP_1⟩:=P4.open3
  go_wp2_with
   (first
     |(go_at_call 69;(with_reducible refine(HT.out _ _ (x2.num (by omega)) T4).mono ?_);rintro e w11 ⟨rfl,hb11⟩;have B11:=B2.trans (hb11.mono B2.size);have x11:=x2.below hb11;have T11:=T4.below hb11;have P11:=P4.below hb11;clear x2 T4 P4;obtain⟨cP0_11,cP1_11,cP2_11,fP0_11,fP1_11,fP2_11,sP_11⟩:=P11.open3)
     |(go_at_call 26;(with_reducible refine(HS.out _ _ (x11.num (by omega))).mono ?_);rintro e w12 ⟨rfl,hb12⟩;have B12:=B11.trans (hb12.mono B11.size);have x12:=x11.below hb12;have T12:=T11.below hb12;have P12:=P11.below hb12;clear x11 T11 P11;clear cP0_11 cP1_11 cP2_11 fP0_11 fP1_11 fP2_11 sP_11;obtain⟨cP0_12,cP1_12,cP2_12,fP0_12,fP1_12,fP2_12,sP_12⟩:=P12.open3)
     |(go_at_call 48;(with_reducible refine(bits_n (x12.num (by omega)) eb.out).mono ?_);rintro e w13 ⟨rfl,hb13⟩;have B13:=B12.trans (hb13.mono B12.size);have x13:=x12.below hb13;have T13:=T12.below hb13;have P13:=P12.below hb13;clear x12 T12 P12;clear cP0_12 cP1_12 cP2_12 fP0_12 fP1_12 fP2_12 sP_12;obtain⟨cP0_13,cP1_13,cP2_13,fP0_13,fP1_13,fP2_13,sP_13⟩:=P13.open3)
     |(go_at_call 48;(with_reducible refine(bits_n (x13.num (by omega)) eb.out).mono ?_);rintro e w14 ⟨rfl,hb14⟩;have B14:=B13.trans (hb14.mono B13.size);have x14:=x13.below hb14;have T14:=T13.below hb14;have P14:=P13.below hb14;clear x13 T13 P13;clear cP0_13 cP1_13 cP2_13 fP0_13 fP1_13 fP2_13 sP_13;obtain⟨cP0_14,cP1_14,cP2_14,fP0_14,fP1_14,fP2_14,sP_14⟩:=P14.open3)
     |(go_at_call 101;(with_reducible refine(of_1).mono ?_);rintro e w15 ⟨vo15,rfl,o15,hb15⟩;have B15:=B14.trans (hb15.mono B14.size);have x15:=x14.below hb15;have T15:=T14.below hb15;have P15:=P14.below hb15;clear x14 T14 P14;clear cP0_14 cP1_14 cP2_14 fP0_14 fP1_14 fP2_14 sP_14;obtain⟨cP0_15,cP1_15,cP2_15,fP0_15,fP1_15,fP2_15,sP_15⟩:=P15.open3)
     |(go_at_call 100;(with_reducible refine(HSH.out _ _ (o15.num sO)).mono ?_);rintro e w16 ⟨vp16,rfl,p16,hb16⟩;have B16:=B15.trans (hb16.mono B15.size);have x16:=x15.below hb16;have T16:=T15.below hb16;have P16:=P15.below hb16;have o16:=o15.below hb16;clear x15 T15 P15 o15;clear cP0_15 cP1_15 cP2_15 fP0_15 fP1_15 fP2_15 sP_15;obtain⟨cP0_16,cP1_16,cP2_16,fP0_16,fP1_16,fP2_16,sP_16⟩:=P16.open3)
     |(go_at_call 108;(with_reducible refine(add_n (x16.num (by omega)) (x16.num (by omega)) ET.out).mono ?_);rintro e w17 ⟨vt17,rfl,t17,hb17⟩;have B17:=B16.trans (hb17.mono B16.size);have x17:=x16.below hb17;have T17:=T16.below hb17;have P17:=P16.below hb17;have o17:=o16.below hb17;have p17:=p16.below hb17;clear x16 T16 P16 o16 p16;clear cP0_16 cP1_16 cP2_16 fP0_16 fP1_16 fP2_16 sP_16;obtain⟨cP0_17,cP1_17,cP2_17,fP0_17,fP1_17,fP2_17,sP_17⟩:=P17.open3)
     |(go_at_call 108;(with_reducible refine(add_n (p17.num (by omega)) (p17.num (by omega)) EP.out).mono ?_);rintro e w18 ⟨vr18,rfl,r18,hb18⟩;have B18:=B17.trans (hb18.mono B17.size);have x18:=x17.below hb18;have T18:=T17.below hb18;have P18:=P17.below hb18;have o18:=o17.below hb18;have p18:=p17.below hb18;have t18:=t17.below hb18;clear x17 T17 P17 o17 p17 t17;clear cP0_17 cP1_17 cP2_17 fP0_17 fP1_17 fP2_17 sP_17;obtain⟨cP0_18,cP1_18,cP2_18,fP0_18,fP1_18,fP2_18,sP_18⟩:=P18.open3)
     |(go_at_call 108;(with_reducible refine(add_n (p18.num (by omega)) (r18.num (by omega)) EP3.out).mono ?_);rintro e w19 ⟨vs19,rfl,s19,hb19⟩;have B19:=B18.trans (hb19.mono B18.size);have x19:=x18.below hb19;have T19:=T18.below hb19;have P19:=P18.below hb19;have o19:=o18.below hb19;have p19:=p18.below hb19;have t19:=t18.below hb19;have r19:=r18.below hb19;clear x18 T18 P18 o18 p18 t18 r18;clear cP0_18 cP1_18 cP2_18 fP0_18 fP1_18 fP2_18 sP_18;obtain⟨cP0_19,cP1_19,cP2_19,fP0_19,fP1_19,fP2_19,sP_19⟩:=P19.open3)
     |(go_at_call 102;(with_reducible refine(cmp_n (t19.num sT) (s19.num sP3) EC.out).mono ?_);rintro e w20 ⟨rfl,hb20⟩;have B20:=B19.trans (hb20.mono B19.size);have x20:=x19.below hb20;have T20:=T19.below hb20;have P20:=P19.below hb20;have o20:=o19.below hb20;have p20:=p19.below hb20;have t20:=t19.below hb20;have r20:=r19.below hb20;have s20:=s19.below hb20;clear x19 T19 P19 o19 p19 t19 r19 s19;clear cP0_19 cP1_19 cP2_19 fP0_19 fP1_19 fP2_19 sP_19;obtain⟨cP0_20,cP1_20,cP2_20,fP0_20,fP1_20,fP2_20,sP_20⟩:=P20.open3)
     |(go_at_call 108;(with_reducible refine(add_n (x20.num (by omega)) (p20.num (by omega)) ED.out).mono ?_);rintro e w21 ⟨vd21,rfl,d21,hb21⟩;have B21:=B20.trans (hb21.mono B20.size);have x21:=x20.below hb21;have T21:=T20.below hb21;have P21:=P20.below hb21;have o21:=o20.below hb21;have p21:=p20.below hb21;have t21:=t20.below hb21;have r21:=r20.below hb21;have s21:=s20.below hb21;clear x20 T20 P20 o20 p20 t20 r20 s20;clear cP0_20 cP1_20 cP2_20 fP0_20 fP1_20 fP2_20 sP_20;obtain⟨cP0_21,cP1_21,cP2_21,fP0_21,fP1_21,fP2_21,sP_21⟩:=P21.open3)
     |(go_at_call 109;(with_reducible refine(sub_n (x21.num (by omega)) (p21.num (by omega)) EN.out).mono ?_);rintro e w22 ⟨vn22,rfl,n22,hb22⟩;have B22:=B21.trans (hb22.mono B21.size);have x22:=x21.below hb22;have T22:=T21.below hb22;have P22:=P21.below hb22;have o22:=o21.below hb22;have p22:=p21.below hb22;have t22:=t21.below hb22;have r22:=r21.below hb22;have s22:=s21.below hb22;have d22:=d21.below hb22;clear x21 T21 P21 o21 p21 t21 r21 s21 d21;clear cP0_21 cP1_21 cP2_21 fP0_21 fP1_21 fP2_21 sP_21;obtain⟨cP0_22,cP1_22,cP2_22,fP0_22,fP1_22,fP2_22,sP_22⟩:=P22.open3)
     |fail)
  (try simp only[Exit.inBlock,Exit.then])
  refine bodyPost_ret (results_tmp5 rfl _ _ _) rfl ?_
  exact⟨_,_,rfl,n22,d22,by assumption⟩
end Go.Proofs.YtffaefjkpipjnaaGreatDoor
namespace Go.Proofs.YtffaefjkpipjnaaGreatDoor
set_option maxRecDepth 100000
open Go.RowKit Go.ChangeShapes Go.WideShapes
set_option linter.unusedVariables false
theorem RdN.setj {w:World}{v:Value}{l:List Nat}{b:Nat}{c:Array Value}(h:RdN w v l) (hB:Blk w b c) (hc:∀x∈c.toList,∀n:Nat,x≠L64 n) (j:Nat) (x:Value):RdN (w.setCell ⟨b,j,none⟩ x) v l:=by
 have h2:=(h.away hB hc).keep (S:=fun g=>g=b) ((Fr.refl (fun g=>g=b) w).setCell (p:=⟨b,j,none⟩) rfl x) (fun _ h=>h)
 exact h2.mono (fun _ _ _=>trivial)
theorem Num.setj {w:World}{v:Value}{n b:Nat}{c:Array Value}(h:Num w v n) (hB:Blk w b c) (hc:∀x∈c.toList,∀n:Nat,x≠L64 n) (j:Nat) (x:Value):Num (w.setCell ⟨b,j,none⟩ x) v n:=by
 obtain⟨l,h1,h2⟩:=h;exact⟨l,h1.setj hB hc j x,h2⟩
theorem Blk.otherj {w:World}{b b':Nat}{c:Array Value}(h:Blk w b c) (hne:b≠b') (j:Nat) (x:Value):Blk (w.setCell ⟨b',j,none⟩ x) b c:=by
 obtain⟨h1,T,h2⟩:=h
 exact⟨by simpa[World.setCell]using h1,T,heap_setO h2 x hne⟩
theorem Blk.p0 {w:World}{b:Nat}{x y z:Value}(h:Blk w b #[x,y,z]) (x':Value):Blk (w.setCell ⟨b,0,none⟩ x') b #[x',y,z]:=by
 obtain⟨h1,T,h2⟩:=h
 exact⟨by simpa[World.setCell]using h1,T,heap_setC h2 x'⟩
theorem Blk.p1 {w:World}{b:Nat}{x y z:Value}(h:Blk w b #[x,y,z]) (x':Value):Blk (w.setCell ⟨b,1,none⟩ x') b #[x,x',z]:=by
 obtain⟨h1,T,h2⟩:=h
 exact⟨by simpa[World.setCell]using h1,T,heap_setC h2 x'⟩
theorem tcells {a c:Option Addr}{n k m j:Nat}{p:Bool}:∀x∈(#[.slice a n k,.slice c m j,.bool p]:Array Value).toList,∀i:Nat,x≠L64 i:=by
 intro x hx i
 simp at hx
 rcases hx with rfl|rfl|rfl<;>simp[L64]
set_option maxHeartbeats 2000000 in
theorem times_p {w:World}{v u:Value}{L H N A B:Nat}{n:Int}{ng:Bool}(h:Num w v L) (k:Num w u H) (hT:Tab w) (n1: -4194304≤n) (n2:n≤4194304) (hN:n.natAbs=N) (hg:decide (n<0)=ng) (sL:bitN L≤30000) (sH:bitN H≤30000) (hA:L*N=A) (hB:H*N=B):
 Calls Tryz.prog 65 #[v,u,.int .i64 n] w fun e w'=>∃a c i j m o,e= .returned (.agg #[.slice a c i,.slice j m o,.bool ng])∧RdN w' (.slice a c i) (digs BB A)∧RdN w' (.slice j m o) (digs BB B)∧Below w.heap.size w w':=by
 have sN:bitN N≤23:=bitN_le.2 (by omega)
 have hNB:N<BB:=by rw[show BB=18446744073709551616 from rfl];omega
 have HA:Hid (∀w v,Num w v L→Calls Tryz.prog 110 #[v,.int .u64 (N:Int)] w (OneZ w A)):=Lib.hid (fun w v h=>times_n h hNB hA (by omega))
 have HB:Hid (∀w v,Num w v H→Calls Tryz.prog 110 #[v,.int .u64 (N:Int)] w (OneZ w B)):=Lib.hid (fun w v h=>times_n h hNB hB (by omega))
 have wn:IntKind.i64.wrap (-n)= -n:=by rw[IntKind.wrap_i64];omega
 have hg0:=hT.lt
 have hway:(ng=true∧IntKind.u64.wrap (-n)=(N:Int)∧decide (n<0)=true)∨(ng=false∧IntKind.u64.wrap n=(N:Int)∧decide (n<0)=false):=by
  by_cases c:n<0
  ·exact .inl ⟨by rw[←hg];exact decide_eq_true c,by rw[IntKind.wrap_u64];omega,decide_eq_true c⟩
  ·exact .inr ⟨by rw[←hg];exact decide_eq_false c,by rw[IntKind.wrap_u64];omega,decide_eq_false c⟩
 clear hg hN hA hB n1 n2 sN hNB
 rcases hway with⟨rfl,wu,dn⟩|⟨rfl,wu,dn⟩
 all_goals
  go_enter Tryz.func65,Tryz.ntmps65
  go_upto_region 5 with
   (first
     |(go_at_call 110;(with_reducible refine(HA.out _ _ (h.below below_2)).mono ?_);rintro e w1 ⟨vx1,rfl,x1,hb1⟩;have B1:=below_2.trans (hb1.mono below_2.size);have m1:=((h.below below_2)).below hb1;have g1:=((k.below below_2)).below hb1;have T1:=((hT.below below_2)).below hb1;have R1:=((blk_a1)).below hb1;have P1:=((blk_a2)).below hb1;obtain⟨cR0_1,cR1_1,cR2_1,fR0_1,fR1_1,fR2_1,sR_1⟩:=R1.open3;obtain⟨cP0_1,cP1_1,cP2_1,fP0_1,fP1_1,fP2_1,sP_1⟩:=P1.open3;obtain⟨ax1,kx1,rfl,-⟩:=x1.view;try simp only[List.length_nil]at x1)
     |fail)
  have x2:=x1.setj P1 tcells 0 (.slice ax1 (digs BB A).length kx1)
  have g2:=g1.setj P1 tcells 0 (.slice ax1 (digs BB A).length kx1)
  have R2:=R1.otherj (show w.heap.size≠w.heap.size+1 by omega) 0 (.slice ax1 (digs BB A).length kx1)
  have P2:=P1.p0 (.slice ax1 (digs BB A).length kx1)
  have B2:=below_set B1 (show w.heap.size≤w.heap.size+1 by omega) (j:=0) (.slice ax1 (digs BB A).length kx1)
  clear x1 P1 B1 T1 m1 g1 R1 cP0_1 cP1_1 cP2_1 fP0_1 fP1_1 fP2_1 sP_1 cR0_1 cR1_1 cR2_1 fR0_1 fR1_1 fR2_1 sR_1 hb1
  generalize w1.setCell ⟨w.heap.size+1,0,none⟩ (.slice ax1 (digs BB A).length kx1)=w2 at*
  obtain⟨cP0_1,cP1_1,cP2_1,fP0_1,fP1_1,fP2_1,sP_1⟩:=P2.open3
  obtain⟨cR0_1,cR1_1,cR2_1,fR0_1,fR1_1,fR2_1,sR_1⟩:=R2.open3
  go_upto_region 6 with
   (first
     |(go_at_call 110;(with_reducible refine(HB.out _ _ g2).mono ?_);rintro e w11 ⟨vy11,rfl,y11,hb11⟩;have B11:=B2.trans (hb11.mono B2.size);have x11:=x2.below hb11;have g11:=g2.below hb11;have R11:=R2.below hb11;have P11:=P2.below hb11;clear x2 g2 R2 P2;obtain⟨cR0_11,cR1_11,cR2_11,fR0_11,fR1_11,fR2_11,sR_11⟩:=R11.open3;obtain⟨cP0_11,cP1_11,cP2_11,fP0_11,fP1_11,fP2_11,sP_11⟩:=P11.open3;obtain⟨ay11,ky11,rfl,-⟩:=y11.view;try simp only[List.length_nil]at y11)
     |fail)
  have x4:=x11.setj P11 tcells 1 (.slice ay11 (digs BB B).length ky11)
  have y4:=y11.setj P11 tcells 1 (.slice ay11 (digs BB B).length ky11)
  have R4:=R11.otherj (show w.heap.size≠w.heap.size+1 by omega) 1 (.slice ay11 (digs BB B).length ky11)
  have P4:=P11.p1 (.slice ay11 (digs BB B).length ky11)
  have B4:=below_set B11 (show w.heap.size≤w.heap.size+1 by omega) (j:=1) (.slice ay11 (digs BB B).length ky11)
  clear x11 y11 P11 B11 g11 R11 cP0_11 cP1_11 cP2_11 fP0_11 fP1_11 fP2_11 sP_11 cR0_11 cR1_11 cR2_11 fR0_11 fR1_11 fR2_11 sR_11 hb11 cP0_1 cP1_1 cP2_1 fP0_1 fP1_1 fP2_1 sP_1 cR0_1 cR1_1 cR2_1 fR0_1 fR1_1 fR2_1 sR_1
  generalize w11.setCell ⟨w.heap.size+1,1,none⟩ (.slice ay11 (digs BB B).length ky11)=w4 at*
  obtain⟨cP0_1,cP1_1,cP2_1,fP0_1,fP1_1,fP2_1,sP_1⟩:=P4.open3
  obtain⟨cR0_1,cR1_1,cR2_1,fR0_1,fR1_1,fR2_1,sR_1⟩:=R4.open3
  go_wp2_with fail
 ·obtain⟨z0,z1,z2,-⟩:=(R4.set3 (.slice ax1 (digs BB A).length kx1) (.slice ay11 (digs BB B).length ky11) (.bool true)).open3
  refine bodyPost_ret (v:= .agg #[.slice ax1 (digs BB A).length kx1,.slice ay11 (digs BB B).length ky11,.bool true]) (by simp[results,Tryz.results65,go_sem,z0,z1,z2]) rfl ⟨_,_,_,_,_,_,rfl,x4.set3 R4 tcells _ _ _,y4.set3 R4 tcells _ _ _,below_set3 B4 (Nat.le_refl _) _ _ _⟩
 ·obtain⟨z0,z1,z2,-⟩:=(R4.set3 (.slice ax1 (digs BB A).length kx1) (.slice ay11 (digs BB B).length ky11) (.bool false)).open3
  refine bodyPost_ret (v:= .agg #[.slice ax1 (digs BB A).length kx1,.slice ay11 (digs BB B).length ky11,.bool false]) (by simp[results,Tryz.results65,go_sem,z0,z1,z2]) rfl ⟨_,_,_,_,_,_,rfl,x4.set3 R4 tcells _ _ _,y4.set3 R4 tcells _ _ _,below_set3 B4 (Nat.le_refl _) _ _ _⟩
set_option maxHeartbeats 1000000 in
theorem ends_p {w:World}{a c:Option Addr}{i j m o:Nat}{ng n1 n2:Bool}{L H s m1 m2:Nat}{e1 e2:Int}(h:RdN w (.slice a i j) (digs BB L)) (k:RdN w (.slice c m o) (digs BB H)) (hT:Tab w) (hLH:L≤H) (sH:bitN H≤300000) (s2:s≤9000)
 (q1:bareD (endLo ng L H s)=⟨n1,m1,e1⟩) (q2:bareD (endHi ng L H s)=⟨n2,m2,e2⟩):
 Calls Tryz.prog 67 #[.agg #[.slice a i j,.slice c m o,.bool ng],.int .i64 (s:Int)] w fun e w'=>∃x y,e= .returned (.agg #[.bool n1,x,.int .i64 e1,.bool n2,y,.int .i64 e2])∧RdN w' x (digs BB m1)∧RdN w' y (digs BB m2)∧Below w.heap.size w w':=by
 have sL:bitN L≤300000:=Nat.le_trans (bitN_mono hLH) sH
 have HW:=Lib.hid (fun(w:World) v u (h:Num w v L) (k:Num w u H) (hT:Tab w)=>Within_n (neg:=ng) (s:=(s:Int)) h k hT hLH sH (by omega) (by omega) q1 q2)
 clear q1 q2
 go_enter Tryz.func67,Tryz.ntmps67
 go_wp2_with
  (first
    |(go_at_call 62;(with_reducible refine(HW.out _ _ _ ((h.below below_2).num (by omega)) ((k.below below_2).num (by omega)) (hT.below below_2)).mono ?_);rintro e w1 ⟨vx,vy,rfl,x1,y1,hb1⟩;have B1:=below_2.trans (hb1.mono below_2.size);have p1:=((h.below below_2)).below hb1;have g1:=((k.below below_2)).below hb1;have T1:=((hT.below below_2)).below hb1;have P1:=((blk_a1)).below hb1;have R1:=((blk_a2)).below hb1;obtain⟨cP0_1,cP1_1,cP2_1,fP0_1,fP1_1,fP2_1,sP_1⟩:=P1.open3;obtain⟨cR0_1,cR1_1,cR2_1,cR3_1,cR4_1,cR5_1,fR0_1,fR1_1,fR2_1,fR3_1,fR4_1,fR5_1,sR_1⟩:=R1.open6;obtain⟨ax1,kx1,rfl,-⟩:=x1.view;(try simp only[List.length_nil]at x1);obtain⟨ay1,ky1,rfl,-⟩:=y1.view;try simp only[List.length_nil]at y1)
    |fail)
 obtain⟨z0,z1,z2,z3,z4,z5,-⟩:=(R1.set6 (.bool n1) (.slice ax1 (digs BB m1).length kx1) (.int .i64 e1) (.bool n2) (.slice ay1 (digs BB m2).length ky1) (.int .i64 e2)).open6
 refine bodyPost_ret (v:= .agg #[.bool n1,.slice ax1 (digs BB m1).length kx1,.int .i64 e1,.bool n2,.slice ay1 (digs BB m2).length ky1,.int .i64 e2]) (by simp[results,Tryz.results67,go_sem,z0,z1,z2,z3,z4,z5]) rfl ⟨_,_,rfl,x1.set6 R1 dcells6 _ _ _ _ _ _,y1.set6 R1 dcells6 _ _ _ _ _ _,below_set6 B1 (by omega) _ _ _ _ _ _⟩
end Go.Proofs.YtffaefjkpipjnaaGreatDoor
