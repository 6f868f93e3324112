/- Rounding to the nearest is off by half a unit at most; sizes rounded are themselves; exp up to 512: plainly. Conditions: none. -/
import Derived.Test.YtffaefjkpipjnaaGreatDoorPkC16
import Derived.Test.YtffaefjkpipjnaaGreatDoorPkC01
import Derived.Test.YtffaefjkpipjnaaGreatDoorPkC17
import Derived.Test.YtffaefjkpipjnaaGreatDoorPkC12
import Derived.Deep.RegionHeld3
import Derived.Deep.CutBlock
namespace Go.Proofs.YtffaefjkpipjnaaGreatDoor
set_option linter.unusedVariables false
set_option linter.unusedSimpArgs false
set_option maxRecDepth 100000
open Go.RowKit
theorem unit_size {n:Bool}{s:Nat}(h0:0<s) (h:s<9218868437227405312):unitB (topD ⟨n,sigF s,unitE s⟩)=unitE s∧topD ⟨n,sigF s,unitE s⟩≤1023∧-1074≤topD ⟨n,sigF s,unitE s⟩:=by
 have h1:=bitN_pos (sigF_pos h0)
 have h2:bitN (sigF s)≤53:=bitN_le.2 (Nat.lt_of_lt_of_le (sigF_lt s) (by decide))
 have h3:=unitE_ge s
 have h4:=unitE_lt h
 have h5:unitE s= -1074∨bitN (sigF s)=53:=by
  by_cases c:s/4503599627370496=0
  ·left;unfold unitE;rw[if_pos c]
  ·right
   have:52<bitN (sigF s):=lt_bitN.2 (by unfold sigF;rw[if_neg c];omega)
   omega
 unfold unitB topD
 dsimp only
 omega
theorem szB_exact (n:Bool) {s:Nat}(dir:Int) (h0:0<s) (h:s<9218868437227405312):szB n (sigF s) (unitE s) dir=s:=by
 obtain⟨h1,h2,h3⟩:=unit_size (n:=n) h0 h
 unfold szB sizeB
 rw[if_neg (by omega),if_neg (by omega),h1]
 unfold wholeP partsP
 rw[if_pos (Int.le_refl _),Int.sub_self]
 dsimp only
 have ha:awayB dir n (decide (sigF s*2^(0:Int).toNat%2=1)) false (false||false)=false:=by unfold awayB;split<;>rfl
 rw[ha,if_neg (by decide),show(0:Int).toNat=0 from rfl,Nat.pow_zero,Nat.mul_one,Nat.add_zero]
 unfold sigF unitE
 by_cases c:s/4503599627370496=0
 ·rw[if_pos c,if_pos c,show(-1074+1074:Int).toNat=0 from rfl];omega
 ·rw[if_neg c,if_neg c];omega
theorem near_unit {n:Bool}{M:Nat}{E:Int}(h0:M≠0) (t0: -1022≤topD ⟨n,M,E⟩) (t1:topD ⟨n,M,E⟩≤1023):
 szv (szB n M E 0)≤(M:Rat)*pw E*(1+pw (-53))∧(M:Rat)*pw E*(1-pw (-53))≤szv (szB n M E 0):=by
 obtain⟨i1,-⟩:=top_in (n:=n) (E:=E) h0
 obtain⟨u,hu⟩:∃u,unitB (topD ⟨n,M,E⟩)=u:=⟨_,rfl⟩
 have hu':u=topD ⟨n,M,E⟩-52:=by rw[←hu];unfold unitB;omega
 have hz:szB n M E 0=(wholeP n M E false 0 u).1+(u+1074).toNat*4503599627370496:=by
  unfold szB sizeB;rw[if_neg (by omega),if_neg (by omega),hu]
 have hw:=whole_le (n:=n) (more:=false) (dir:=0) h0 (rfl:topD ⟨n,M,E⟩=_)
 rw[hu]at hw
 obtain⟨⟨q,h,b⟩,hp⟩:∃p,partsP M E u=p:=⟨_,rfl⟩
 obtain⟨p1,p2,p3,-⟩:=parts_val hp
 obtain⟨X,hX⟩:∃X,(M:Rat)*pw E*pw (1-u)=X:=⟨_,rfl⟩
 rw[hX]at p1 p2 p3
 obtain⟨w,hW⟩:∃w,(wholeP n M E false 0 u).1=w:=⟨_,rfl⟩
 have hd:((2*w:Nat):Rat)≤X+1∧X-1≤((2*w:Nat):Rat):=by
  unfold wholeP at hW
  rw[hp]at hW
  dsimp only at hW
  unfold awayB at hW
  rw[if_pos rfl]at hW
  unfold hb at p1 p2 p3
  cases h
  ·rw[Bool.false_and,if_neg (by decide),Nat.add_zero]at hW
   subst hW
   rw[if_neg (by decide),Nat.add_zero]at p1 p2
   constructor<;>grind
  ·rw[if_pos rfl]at p1 p2 p3
   rw[Bool.true_and]at hW
   have e1:((2*q+1:Nat):Rat)=((2*q:Nat):Rat)+1:=Rat.natCast_add _ _
   by_cases c:(b||false||decide (q%2=1))=true
   ·rw[if_pos c]at hW
    subst hW
    have e2:((2*(q+1):Nat):Rat)=((2*q:Nat):Rat)+2:=by rw[show 2*(q+1)=2*q+2 by omega];exact Rat.natCast_add _ _
    rw[e1]at p1 p2
    constructor<;>grind
   ·rw[if_neg c,Nat.add_zero]at hW
    subst hW
    have b0:b=false:=by cases b;rfl;exact absurd rfl c
    have:=p3 b0
    rw[e1]at p1 p2 this
    constructor<;>grind
 rw[hW]at hw hz
 have hv:szv (szB n M E 0)=(w:Rat)*pw u:=by
  rw[hz]
  by_cases c:w=9007199254740992
  ·have:=sz_code (G:=4503599627370496) (n:=(u+1074).toNat+1) (.inr (by omega))
   have e:w+(u+1074).toNat*4503599627370496=((u+1074).toNat+1)*4503599627370496+4503599627370496:=by omega
   unfold szv
   rw[e,this.1,this.2,c,show(((u+1074).toNat+1:Nat):Int)-1074=u+1 by omega,pw_succ,←Rat.mul_assoc]
   congr 1
   show((4503599627370496:Nat):Rat)*((2:Nat):Rat)=_
   rw[←Rat.natCast_mul]
  ·have:=sz_code (G:=w) (n:=(u+1074).toNat) (by
    by_cases c2:u= -1074
    ·left;omega
    ·right;have:=hw.2 c2;omega)
   unfold szv
   rw[Nat.add_comm,this.1,this.2,show(((u+1074).toNat:Nat):Int)-1074=u by omega]
 have hpu:=pw_pos (u-1)
 have e1:pw u=2*pw (u-1):=by have:=pw_succ (u-1);rw[show u-1+1=u by omega]at this;exact this
 have e2:X*pw (u-1)=(M:Rat)*pw E:=by
  rw[←hX,Rat.mul_assoc,←pw_add,show 1-u+(u-1)=0 by omega,pw_zero,Rat.mul_one]
 have e3:(w:Rat)*pw u=((2*w:Nat):Rat)*pw (u-1):=by
  rw[e1,Rat.natCast_mul];have:((2:Nat):Rat)=2:=rfl;rw[this];grind
 have k1:=Rat.mul_le_mul_of_nonneg_right hd.1 (Rat.le_of_lt hpu)
 have k2:=Rat.mul_le_mul_of_nonneg_right hd.2 (Rat.le_of_lt hpu)
 have e4:pw (u-1)=pw (-53)*pw (topD ⟨n,M,E⟩):=by rw[←pw_add];congr 1;omega
 have k3:=Rat.mul_le_mul_of_nonneg_left i1 (Rat.le_of_lt (pw_pos (-53)))
 rw[←e4]at k3
 rw[hv,e3]
 generalize ((2*w:Nat):Rat)=W at*
 generalize (M:Rat)*pw E=D at*
 generalize pw (-53)=ε at*
 generalize pw (u-1)=g at*
 constructor<;>grind
theorem step_up {S:Nat}(h:4607182418800017408≤S):szv S+pw (-52)≤szv (S+2):=by
 have h1:=szv_succ S
 have h2:=szv_lt (S+1)
 have h3:pw (-52)≤pw (unitE S):=pw_mono (by unfold unitE;rw[if_neg (by omega)];omega)
 rw[Rat.natCast_add,Rat.add_mul]at h1
 have:((1:Nat):Rat)=1:=rfl
 rw[this]at h1
 unfold szv at*
 grind
theorem step_down {S:Nat}(h:4607182418800017408≤S):szv (S-2)+pw (-52)≤szv S:=by
 obtain⟨t,rfl⟩:∃t,S=t+2:=⟨S-2,by omega⟩
 rw[show t+2-2=t by omega]
 have h1:=szv_succ t
 have h1':=szv_succ (t+1)
 have h3:pw (-53)≤pw (unitE t):=pw_mono (by unfold unitE;rw[if_neg (by omega)];omega)
 have h4:pw (-53)≤pw (unitE (t+1)):=pw_mono (by unfold unitE;rw[if_neg (by omega)];omega)
 have h5:=pw_succ (-53)
 rw[show(-53:Int)+1= -52 by decide]at h5
 rw[Rat.natCast_add,Rat.add_mul]at h1 h1'
 have:((1:Nat):Rat)=1:=rfl
 rw[this]at h1 h1'
 unfold szv at*
 grind
theorem pw_lt_succ (e:Int):pw e<pw (e+1):=by
 rw[pw_succ]
 have:=pw_pos e
 grind
theorem exp_64:XL 64 1 (pw 112):=by
 have h:=((XL.pos_lin (q:=1/4) (by decide+kernel) (by decide+kernel)).scale (r:=((4:Nat):Rat)) (by decide+kernel)).pow 256
 rw[show(1-1/4:Rat)*((4:Nat):Rat)=((3:Nat):Rat)by decide+kernel,Rat.one_mul,show((256:Nat):Rat)*(1/4)=64 by decide+kernel,←Rat.natCast_pow,←Rat.natCast_pow]at h
 obtain⟨a,ha⟩:∃a:Nat,3^256=a:=⟨_,rfl⟩
 obtain⟨b,hb⟩:∃b:Nat,4^256=b:=⟨_,rfl⟩
 obtain⟨c,hc⟩:∃c:Nat,2^112=c:=⟨_,rfl⟩
 have hk:b≤a*c:=by rw[←ha,←hb,←hc];decide+kernel
 have ha0:0<a:=by rw[←ha];exact Nat.pow_pos (by decide)
 have hc0:0<c:=by rw[←hc];exact Nat.two_pow_pos _
 have hp:pw 112=(c:Rat):=by have:=pw_nat 112;rw[hc]at this;exact this
 rw[ha,hb]at h
 clear ha hb hc
 rw[hp]
 have h2:=h.up (Rat.natCast_le_natCast.2 hk)
 rw[Rat.natCast_mul]at h2
 refine XL.unscale (r:=(a:Rat)) (Rat.natCast_pos.2 ha0) (by decide) (Rat.natCast_pos.2 hc0) ?_
 rw[Rat.one_mul,Rat.mul_comm]
 exact h2
theorem pw_pow (k n:Nat):pw (k:Int)^n=pw ((k*n:Nat):Int):=by
 rw[pw_nat,pw_nat,Nat.pow_mul];exact(Rat.natCast_pow _ _).symm
theorem exp_512:XL 512 1 (pw 900):=by
 have h:=exp_64.pow 8
 rw[show((8:Nat):Rat)*64=512 by decide+kernel,show(1:Rat)^8=1 by decide+kernel,show pw 112=pw ((112:Nat):Int)from rfl,pw_pow]at h
 exact h.up (pw_mono (by decide))
theorem szB_small {n:Bool}{M:Nat}{E:Int}(h0:M≠0) (t1:topD ⟨n,M,E⟩<901):szB n M E 0<9218868437227405312:=by
 have h:=size_le (n:=n) (E:=E) (dir:=0) h0
 have h2:(unitB (topD ⟨n,M,E⟩)+1074).toNat≤1922:=by unfold unitB;omega
 have h3:=Nat.mul_le_mul_right 4503599627370496 h2
 have h4:sizeB n M E false 0<9218868437227405312:=Nat.lt_of_le_of_lt (Nat.le_trans h (Nat.add_le_add_left h3 _)) (by decide)
 unfold szB
 rw[if_neg (by omega)]
 split
 ·split<;>decide
 ·exact h4
end Go.Proofs.YtffaefjkpipjnaaGreatDoor

namespace Go.Proofs.YtffaefjkpipjnaaGreatDoor
set_option maxRecDepth 100000
open Go.RowKit Go.ChangeShapes Go.WideShapes
def OneP (w:World) (p:Pr) (e:Ending) (w':World):Prop:=∃a n k b m j,e= .returned (.agg #[.slice a n k,.slice b m j])∧RdN w' (.slice a n k) (digs BB p.lo)∧RdN w' (.slice b m j) (digs BB p.hi)∧Below w.heap.size w w'
theorem bitN_shl (A n:Nat):bitN (A*2^n)≤bitN A+n:=bitN_le.2 (by rw[Nat.pow_add];exact Nat.mul_lt_mul_of_pos_right (bitN_lt A) (Nat.two_pow_pos n))
theorem upShift_n {w:World}{v:Value}{A n C:Nat}(h:Num w v A) (hT:Tab w) (e:cdiv A (2^n)=C) (hn:n≤9223372036854775807):Calls Tryz.prog 129 #[v,.int .i64 n] w (One w (digs BB C)):=by
 have sA:=h.bound
 have sq:bitN (A/2^n)≤2560000:=Nat.le_trans (bitN_mono (Nat.div_le_self _ _)) sA
 obtain⟨Q,hQ⟩:∃Q,A/2^n=Q:=⟨_,rfl⟩
 have eQ:=Lib.hid hQ
 rw[hQ]at sq
 unfold cdiv at e
 rw[hQ]at e
 clear hQ
 have HS:=Lib.hid (shr_n h hT eQ.out hn)
 by_cases h0:A%2^n=0
 ·rw[if_pos h0]at e
  subst e
  rw[show decide (A%2^n≠0)=false from decide_eq_false (fun h=>h h0)]at HS
  clear h0 h hT
  go_enter Tryz.func129,Tryz.ntmps129
  go_wp2_with
   (first
     |(go_at_call 116;(with_reducible refine(HS.out).mono ?_);rintro e w1 ⟨vq1,rfl,q1,hb1⟩;have B1:=hb1)
     |fail)
  go_ret
  exact⟨_,rfl,q1,B1⟩
 ·rw[if_neg h0]at e
  rw[show decide (A%2^n≠0)=true from decide_eq_true h0]at HS
  have eC:=Lib.hid e
  clear h0 h hT e
  go_enter Tryz.func129,Tryz.ntmps129
  go_wp2_with
   (first
     |(go_at_call 116;(with_reducible refine(HS.out).mono ?_);rintro e w1 ⟨vq1,rfl,q1,hb1⟩;have B1:=hb1)
     |(go_at_call 101;(with_reducible refine(of_1).mono ?_);rintro e w2 ⟨vo2,rfl,o2,hb2⟩;have B2:=B1.trans (hb2.mono B1.size);have q2:=q1.below hb2;clear q1)
     |(go_at_call 108;(with_reducible refine(add_n (q2.num sq) (o2.num (by rw[bitN_one];decide)) eC.out).mono ?_);rintro e w3 ⟨vr3,rfl,r3,hb3⟩;have B3:=B2.trans (hb3.mono B2.size);have q3:=q2.below hb3;have o3:=o2.below hb3;clear q2 o2)
     |fail)
  go_ret
  exact⟨_,rfl,r3,B3⟩
theorem frac_n {w:World}{v u:Value}{A B n:Nat}(h:Num w v A) (k:Num w u B) (hT:Tab w) (h0:B≠0) (hn:n+bitN A≤65536):Calls Tryz.prog 111 #[v,u,.int .i64 n] w (OneP w (fracP A B (2^n))):=by
 obtain⟨C,hC⟩:∃C,A*2^n=C:=⟨_,rfl⟩
 have sC:bitN C≤2560000:=by rw[←hC];exact Nat.le_trans (bitN_shl _ _) (by omega)
 unfold fracP
 rw[hC]
 have eC:=Lib.hid hC;clear hC
 obtain⟨Q,hQ⟩:∃Q,C/B=Q:=⟨_,rfl⟩
 obtain⟨R,hR⟩:∃R,C%B=R:=⟨_,rfl⟩
 have sQ:bitN Q≤2560000:=by rw[←hQ];exact Nat.le_trans (bitN_mono (Nat.div_le_self _ _)) sC
 have eQ:=Lib.hid hQ;have eR:=Lib.hid hR
 unfold cdiv
 rw[hQ,hR]
 clear hQ hR
 by_cases hr:R=0
 ·subst hr
  rw[if_pos rfl]
  go_enter Tryz.func111,Tryz.ntmps111
  go_wp2_with
   (first
     |(go_at_call 100;(with_reducible refine(shl_n (h.below (below_alloc _ _)) eC.out hn).mono ?_);rintro e w1 ⟨vs1,rfl,s1,hb1⟩;have B1:=(below_alloc _ _).trans (hb1.mono (below_alloc _ _).size);have h1:=((h.below (below_alloc _ _))).below hb1;have k1:=((k.below (below_alloc _ _))).below hb1;have T1:=((hT.below (below_alloc _ _))).below hb1;have R1:=((blk_new)).below hb1;obtain⟨cR0_1,cR1_1,fR0_1,fR1_1,sR_1⟩:=R1.open2)
     |(go_at_call 98;(with_reducible refine(div_n (s1.num sC) k1 T1 h0 eQ.out eR.out).mono ?_);rintro e w2 ⟨vq2,vr2,rfl,q2,r2,hb2⟩;have B2:=B1.trans (hb2.mono B1.size);have h2:=h1.below hb2;have k2:=k1.below hb2;have T2:=T1.below hb2;have R2:=R1.below hb2;have s2:=s1.below hb2;clear h1 k1 T1 R1 s1;clear cR0_1 cR1_1 fR0_1 fR1_1 sR_1;obtain⟨cR0_2,cR1_2,fR0_2,fR1_2,sR_2⟩:=R2.open2;obtain⟨ar2,kr2,rfl⟩:=r2.rnone;obtain⟨aq2,kq2,rfl,-⟩:=q2.view;try simp only[List.length_nil]at q2)
     |fail)
  obtain⟨z0,z1,-⟩:=(R2.set2 (.slice aq2 (digs BB Q).length kq2) (.slice aq2 (digs BB Q).length kq2)).open2
  refine bodyPost_ret (v:= .agg #[.slice aq2 (digs BB Q).length kq2,.slice aq2 (digs BB Q).length kq2]) (by simp[results,Tryz.results111,go_sem,z0,z1]) rfl ⟨_,_,_,_,_,_,rfl,q2.set2 R2 pcells _ _,q2.set2 R2 pcells _ _,?_⟩
  exact below_set (below_set B2 (by omega) _) (by omega) _
 ·rw[if_neg hr]
  have hrl:0<(digs BB R).length:=List.length_pos_iff.2 (fun e=>hr ((digs_nil_iff BB_two _).1 e))
  go_enter Tryz.func111,Tryz.ntmps111
  go_wp2_with
   (first
     |(go_at_call 100;(with_reducible refine(shl_n (h.below (below_alloc _ _)) eC.out hn).mono ?_);rintro e w1 ⟨vs1,rfl,s1,hb1⟩;have B1:=(below_alloc _ _).trans (hb1.mono (below_alloc _ _).size);have h1:=((h.below (below_alloc _ _))).below hb1;have k1:=((k.below (below_alloc _ _))).below hb1;have T1:=((hT.below (below_alloc _ _))).below hb1;have R1:=((blk_new)).below hb1;obtain⟨cR0_1,cR1_1,fR0_1,fR1_1,sR_1⟩:=R1.open2)
     |(go_at_call 98;(with_reducible refine(div_n (s1.num sC) k1 T1 h0 eQ.out eR.out).mono ?_);rintro e w2 ⟨vq2,vr2,rfl,q2,r2,hb2⟩;have B2:=B1.trans (hb2.mono B1.size);have h2:=h1.below hb2;have k2:=k1.below hb2;have T2:=T1.below hb2;have R2:=R1.below hb2;have s2:=s1.below hb2;clear h1 k1 T1 R1 s1;clear cR0_1 cR1_1 fR0_1 fR1_1 sR_1;obtain⟨cR0_2,cR1_2,fR0_2,fR1_2,sR_2⟩:=R2.open2;obtain⟨aq2,kq2,rfl,-⟩:=q2.view;(try simp only[List.length_nil]at q2);obtain⟨ar2,kr2,rfl,-⟩:=r2.view;try simp only[List.length_nil]at r2)
     |(go_at_call 101;(with_reducible refine(of_1).mono ?_);rintro e w3 ⟨vo3,rfl,o3,hb3⟩;have B3:=B2.trans (hb3.mono B2.size);have h3:=h2.below hb3;have k3:=k2.below hb3;have T3:=T2.below hb3;have R3:=R2.below hb3;have s3:=s2.below hb3;have q3:=q2.below hb3;have r3:=r2.below hb3;clear h2 k2 T2 R2 s2 q2 r2;clear cR0_2 cR1_2 fR0_2 fR1_2 sR_2;obtain⟨cR0_3,cR1_3,fR0_3,fR1_3,sR_3⟩:=R3.open2)
     |(go_at_call 108;(with_reducible refine(add_n (q3.num sQ) (o3.num (by rw[bitN_one];decide)) rfl).mono ?_);rintro e w4 ⟨vp4,rfl,p4,hb4⟩;have B4:=B3.trans (hb4.mono B3.size);have h4:=h3.below hb4;have k4:=k3.below hb4;have T4:=T3.below hb4;have R4:=R3.below hb4;have s4:=s3.below hb4;have q4:=q3.below hb4;have r4:=r3.below hb4;have o4:=o3.below hb4;clear h3 k3 T3 R3 s3 q3 r3 o3;clear cR0_3 cR1_3 fR0_3 fR1_3 sR_3;obtain⟨cR0_4,cR1_4,fR0_4,fR1_4,sR_4⟩:=R4.open2;obtain⟨ap4,kp4,rfl,-⟩:=p4.view;try simp only[List.length_nil]at p4)
     |fail)
  obtain⟨z0,z1,-⟩:=(R4.set2 (.slice aq2 (digs BB Q).length kq2) (.slice ap4 (digs BB (Q+1)).length kp4)).open2
  refine bodyPost_ret (v:= .agg #[.slice aq2 (digs BB Q).length kq2,.slice ap4 (digs BB (Q+1)).length kp4]) (by simp[results,Tryz.results111,go_sem,z0,z1]) rfl ⟨_,_,_,_,_,_,rfl,q4.set2 R4 pcells _ _,p4.set2 R4 pcells _ _,?_⟩
  exact below_set (below_set B4 (by omega) _) (by omega) _
end Go.Proofs.YtffaefjkpipjnaaGreatDoor
namespace Go.Proofs.YtffaefjkpipjnaaGreatDoor
set_option maxRecDepth 100000
open Go.RowKit Go.ChangeShapes Go.WideShapes
section
variable {w:World}{a0 b0 a1 b1:Option Addr}{n0 k0 m0 j0 n1 k1 m1 j1:Nat}{p q:Pr}
theorem ptimes_n {n:Nat}(hx:Num w (.slice a0 n0 k0) p.lo) (hy:Num w (.slice b0 m0 j0) p.hi) (hz:Num w (.slice a1 n1 k1) q.lo) (hv:Num w (.slice b1 m1 j1) q.hi) (hT:Tab w) (s1:bitN p.lo≤20000) (s2:bitN p.hi≤20000) (s3:bitN q.lo≤20000) (s4:bitN q.hi≤20000) (hn:n≤9223372036854775807):
 Calls Tryz.prog 104 #[.agg #[.slice a0 n0 k0,.slice b0 m0 j0],.agg #[.slice a1 n1 k1,.slice b1 m1 j1],.int .i64 n] w (OneP w (p.times q (2^n))):=by
 obtain⟨X,hX⟩:∃X,p.lo*q.lo=X:=⟨_,rfl⟩
 obtain⟨Y,hY⟩:∃Y,p.hi*q.hi=Y:=⟨_,rfl⟩
 have sX:bitN X≤2560000:=by rw[←hX];exact Nat.le_trans (bitN_mul_le _ _) (by omega)
 have sY:bitN Y≤2560000:=by rw[←hY];exact Nat.le_trans (bitN_mul_le _ _) (by omega)
 unfold Pr.times
 rw[hX,hY]
 have eX:=Lib.hid hX;have eY:=Lib.hid hY
 clear hX hY
 go_enter Tryz.func104,Tryz.ntmps104
 go_wp2_with
  (first
    |(go_at_call 96;(with_reducible refine(mul_n (hx.below below_3) (hz.below below_3) eX.out (by omega)).mono ?_);rintro e w1 ⟨vc1,rfl,c1,hb1⟩;have B1:=below_3.trans (hb1.mono below_3.size);have x1:=((hx.below below_3)).below hb1;have y1:=((hy.below below_3)).below hb1;have z1:=((hz.below below_3)).below hb1;have v1:=((hv.below below_3)).below hb1;have T1:=((hT.below below_3)).below hb1;have P1:=((blk3_1)).below hb1;have Q1:=((blk3_2)).below hb1;have R1:=((blk3_3)).below hb1;obtain⟨cP0_1,cP1_1,fP0_1,fP1_1,sP_1⟩:=P1.open2;obtain⟨cQ0_1,cQ1_1,fQ0_1,fQ1_1,sQ_1⟩:=Q1.open2;obtain⟨cR0_1,cR1_1,fR0_1,fR1_1,sR_1⟩:=R1.open2)
    |(go_at_call 96;(with_reducible refine(mul_n y1 v1 eY.out (by omega)).mono ?_);rintro e w2 ⟨vd2,rfl,d2,hb2⟩;have B2:=B1.trans (hb2.mono B1.size);have x2:=x1.below hb2;have y2:=y1.below hb2;have z2:=z1.below hb2;have v2:=v1.below hb2;have T2:=T1.below hb2;have P2:=P1.below hb2;have Q2:=Q1.below hb2;have R2:=R1.below hb2;have c2:=c1.below hb2;clear x1 y1 z1 v1 T1 P1 Q1 R1 c1;clear cP0_1 cP1_1 fP0_1 fP1_1 sP_1;obtain⟨cP0_2,cP1_2,fP0_2,fP1_2,sP_2⟩:=P2.open2;clear cQ0_1 cQ1_1 fQ0_1 fQ1_1 sQ_1;obtain⟨cQ0_2,cQ1_2,fQ0_2,fQ1_2,sQ_2⟩:=Q2.open2;clear cR0_1 cR1_1 fR0_1 fR1_1 sR_1;obtain⟨cR0_2,cR1_2,fR0_2,fR1_2,sR_2⟩:=R2.open2)
    |(go_at_call 116;(with_reducible refine(shr_n (c2.num sX) T2 rfl hn).mono ?_);rintro e w3 ⟨vf3,rfl,f3,hb3⟩;have B3:=B2.trans (hb3.mono B2.size);have x3:=x2.below hb3;have y3:=y2.below hb3;have z3:=z2.below hb3;have v3:=v2.below hb3;have T3:=T2.below hb3;have P3:=P2.below hb3;have Q3:=Q2.below hb3;have R3:=R2.below hb3;have c3:=c2.below hb3;have d3:=d2.below hb3;clear x2 y2 z2 v2 T2 P2 Q2 R2 c2 d2;clear cP0_2 cP1_2 fP0_2 fP1_2 sP_2;obtain⟨cP0_3,cP1_3,fP0_3,fP1_3,sP_3⟩:=P3.open2;clear cQ0_2 cQ1_2 fQ0_2 fQ1_2 sQ_2;obtain⟨cQ0_3,cQ1_3,fQ0_3,fQ1_3,sQ_3⟩:=Q3.open2;clear cR0_2 cR1_2 fR0_2 fR1_2 sR_2;obtain⟨cR0_3,cR1_3,fR0_3,fR1_3,sR_3⟩:=R3.open2;obtain⟨af3,kf3,rfl,-⟩:=f3.view;try simp only[List.length_nil]at f3)
    |(go_at_call 129;(with_reducible refine(upShift_n (d3.num sY) T3 rfl hn).mono ?_);rintro e w4 ⟨vg4,rfl,g4,hb4⟩;have B4:=B3.trans (hb4.mono B3.size);have x4:=x3.below hb4;have y4:=y3.below hb4;have z4:=z3.below hb4;have v4:=v3.below hb4;have T4:=T3.below hb4;have P4:=P3.below hb4;have Q4:=Q3.below hb4;have R4:=R3.below hb4;have c4:=c3.below hb4;have d4:=d3.below hb4;have f4:=f3.below hb4;clear x3 y3 z3 v3 T3 P3 Q3 R3 c3 d3 f3;clear cP0_3 cP1_3 fP0_3 fP1_3 sP_3;obtain⟨cP0_4,cP1_4,fP0_4,fP1_4,sP_4⟩:=P4.open2;clear cQ0_3 cQ1_3 fQ0_3 fQ1_3 sQ_3;obtain⟨cQ0_4,cQ1_4,fQ0_4,fQ1_4,sQ_4⟩:=Q4.open2;clear cR0_3 cR1_3 fR0_3 fR1_3 sR_3;obtain⟨cR0_4,cR1_4,fR0_4,fR1_4,sR_4⟩:=R4.open2;obtain⟨ag4,kg4,rfl,-⟩:=g4.view;try simp only[List.length_nil]at g4)
    |fail)
 obtain⟨z0,z1,-⟩:=(R4.set2 (.slice af3 (digs BB (X/2^n)).length kf3) (.slice ag4 (digs BB (cdiv Y (2^n))).length kg4)).open2
 refine bodyPost_ret (v:= .agg #[.slice af3 (digs BB (X/2^n)).length kf3,.slice ag4 (digs BB (cdiv Y (2^n))).length kg4]) (by simp[results,Tryz.results104,go_sem,z0,z1]) rfl ⟨_,_,_,_,_,_,rfl,f4.set2 R4 pcells _ _,g4.set2 R4 pcells _ _,?_⟩
 exact below_set (below_set B4 (by omega) _) (by omega) _
theorem pby_n {n:Nat}(hx:Num w (.slice a0 n0 k0) p.lo) (hy:Num w (.slice b0 m0 j0) p.hi) (hn:n<BB) (h0:n≠0) (s2:bitN p.hi≤20000):
 Calls Tryz.prog 105 #[.agg #[.slice a0 n0 k0,.slice b0 m0 j0],L64 n] w (OneP w (p.by n)):=by
 obtain⟨Q,hQ⟩:∃Q,p.lo/n=Q:=⟨_,rfl⟩
 obtain⟨H,hH⟩:∃H,p.hi/n=H:=⟨_,rfl⟩
 obtain⟨R,hR⟩:∃R,p.hi%n=R:=⟨_,rfl⟩
 obtain⟨R0,hR0⟩:∃R0,p.lo%n=R0:=⟨_,rfl⟩
 have sH:bitN H≤2560000:=by rw[←hH];exact Nat.le_trans (bitN_mono (Nat.div_le_self _ _)) (by omega)
 unfold Pr.by cdiv
 rw[hQ,hH,hR]
 have eQ:=Lib.hid hQ;have eH:=Lib.hid hH;have eR:=Lib.hid hR;have eR0:=Lib.hid hR0
 clear hQ hH hR hR0
 by_cases hr:R=0
 ·subst hr
  rw[if_pos rfl]
  go_enter Tryz.func105,Tryz.ntmps105
  go_wp2_with
   (first
     |(go_at_call 124;(with_reducible refine(small_n (hx.below below_2) hn h0 eQ.out eR0.out).mono ?_);rintro e w1 ⟨vc1,rfl,c1,hb1⟩;have B1:=below_2.trans (hb1.mono below_2.size);have x1:=((hx.below below_2)).below hb1;have y1:=((hy.below below_2)).below hb1;have P1:=((blk_a1)).below hb1;have R1:=((blk_a2)).below hb1;obtain⟨cP0_1,cP1_1,fP0_1,fP1_1,sP_1⟩:=P1.open2;obtain⟨cR0_1,cR1_1,fR0_1,fR1_1,sR_1⟩:=R1.open2;obtain⟨ac1,kc1,rfl,-⟩:=c1.view;try simp only[List.length_nil]at c1)
     |(go_at_call 124;(with_reducible refine(small_n y1 hn h0 eH.out eR.out).mono ?_);rintro e w2 ⟨vd2,rfl,d2,hb2⟩;have B2:=B1.trans (hb2.mono B1.size);have x2:=x1.below hb2;have y2:=y1.below hb2;have P2:=P1.below hb2;have R2:=R1.below hb2;have c2:=c1.below hb2;clear x1 y1 P1 R1 c1;clear cP0_1 cP1_1 fP0_1 fP1_1 sP_1;obtain⟨cP0_2,cP1_2,fP0_2,fP1_2,sP_2⟩:=P2.open2;clear cR0_1 cR1_1 fR0_1 fR1_1 sR_1;obtain⟨cR0_2,cR1_2,fR0_2,fR1_2,sR_2⟩:=R2.open2;obtain⟨ad2,kd2,rfl,-⟩:=d2.view;try simp only[List.length_nil]at d2)
     |fail)
  obtain⟨z0,z1,-⟩:=(R2.set2 (.slice ac1 (digs BB Q).length kc1) (.slice ad2 (digs BB H).length kd2)).open2
  refine bodyPost_ret (v:= .agg #[.slice ac1 (digs BB Q).length kc1,.slice ad2 (digs BB H).length kd2]) (by simp[results,Tryz.results105,go_sem,z0,z1]) rfl ⟨_,_,_,_,_,_,rfl,c2.set2 R2 pcells _ _,d2.set2 R2 pcells _ _,?_⟩
  exact below_set (below_set B2 (by omega) _) (by omega) _
 ·rw[if_neg hr]
  have hr0:0<R:=Nat.pos_of_ne_zero hr
  go_enter Tryz.func105,Tryz.ntmps105
  go_wp2_with
   (first
     |(go_at_call 124;(with_reducible refine(small_n (hx.below below_2) hn h0 eQ.out eR0.out).mono ?_);rintro e w1 ⟨vc1,rfl,c1,hb1⟩;have B1:=below_2.trans (hb1.mono below_2.size);have x1:=((hx.below below_2)).below hb1;have y1:=((hy.below below_2)).below hb1;have P1:=((blk_a1)).below hb1;have R1:=((blk_a2)).below hb1;obtain⟨cP0_1,cP1_1,fP0_1,fP1_1,sP_1⟩:=P1.open2;obtain⟨cR0_1,cR1_1,fR0_1,fR1_1,sR_1⟩:=R1.open2;obtain⟨ac1,kc1,rfl,-⟩:=c1.view;try simp only[List.length_nil]at c1)
     |(go_at_call 124;(with_reducible refine(small_n y1 hn h0 eH.out eR.out).mono ?_);rintro e w2 ⟨vd2,rfl,d2,hb2⟩;have B2:=B1.trans (hb2.mono B1.size);have x2:=x1.below hb2;have y2:=y1.below hb2;have P2:=P1.below hb2;have R2:=R1.below hb2;have c2:=c1.below hb2;clear x1 y1 P1 R1 c1;clear cP0_1 cP1_1 fP0_1 fP1_1 sP_1;obtain⟨cP0_2,cP1_2,fP0_2,fP1_2,sP_2⟩:=P2.open2;clear cR0_1 cR1_1 fR0_1 fR1_1 sR_1;obtain⟨cR0_2,cR1_2,fR0_2,fR1_2,sR_2⟩:=R2.open2;obtain⟨ad2,kd2,rfl,-⟩:=d2.view;try simp only[List.length_nil]at d2)
     |(go_at_call 101;(with_reducible refine(of_1).mono ?_);rintro e w3 ⟨vo3,rfl,o3,hb3⟩;have B3:=B2.trans (hb3.mono B2.size);have x3:=x2.below hb3;have y3:=y2.below hb3;have P3:=P2.below hb3;have R3:=R2.below hb3;have c3:=c2.below hb3;have d3:=d2.below hb3;clear x2 y2 P2 R2 c2 d2;clear cP0_2 cP1_2 fP0_2 fP1_2 sP_2;obtain⟨cP0_3,cP1_3,fP0_3,fP1_3,sP_3⟩:=P3.open2;clear cR0_2 cR1_2 fR0_2 fR1_2 sR_2;obtain⟨cR0_3,cR1_3,fR0_3,fR1_3,sR_3⟩:=R3.open2)
     |(go_at_call 108;(with_reducible refine(add_n (d3.num sH) (o3.num (by rw[bitN_one];decide)) rfl).mono ?_);rintro e w4 ⟨vg4,rfl,g4,hb4⟩;have B4:=B3.trans (hb4.mono B3.size);have x4:=x3.below hb4;have y4:=y3.below hb4;have P4:=P3.below hb4;have R4:=R3.below hb4;have c4:=c3.below hb4;have d4:=d3.below hb4;have o4:=o3.below hb4;clear x3 y3 P3 R3 c3 d3 o3;clear cP0_3 cP1_3 fP0_3 fP1_3 sP_3;obtain⟨cP0_4,cP1_4,fP0_4,fP1_4,sP_4⟩:=P4.open2;clear cR0_3 cR1_3 fR0_3 fR1_3 sR_3;obtain⟨cR0_4,cR1_4,fR0_4,fR1_4,sR_4⟩:=R4.open2;obtain⟨ag4,kg4,rfl,-⟩:=g4.view;try simp only[List.length_nil]at g4)
     |fail)
  obtain⟨z0,z1,-⟩:=(R4.set2 (.slice ac1 (digs BB Q).length kc1) (.slice ag4 (digs BB (H+1)).length kg4)).open2
  refine bodyPost_ret (v:= .agg #[.slice ac1 (digs BB Q).length kc1,.slice ag4 (digs BB (H+1)).length kg4]) (by simp[results,Tryz.results105,go_sem,z0,z1]) rfl ⟨_,_,_,_,_,_,rfl,c4.set2 R4 pcells _ _,g4.set2 R4 pcells _ _,?_⟩
  exact below_set (below_set B4 (by omega) _) (by omega) _
end
end Go.Proofs.YtffaefjkpipjnaaGreatDoor
namespace Go.Proofs.YtffaefjkpipjnaaGreatDoor
set_option maxRecDepth 100000
open Go.RowKit Go.ChangeShapes Go.WideShapes
theorem cells22 {w:World}{b c:Nat}{x y z v:Value}(h:Blk w b #[x,y]) (k:Blk w c #[z,v]):w.cell? ⟨b,0,none⟩=some x∧w.cell? ⟨b,1,none⟩=some y∧w.cell? ⟨c,0,none⟩=some z∧w.cell? ⟨c,1,none⟩=some v:=
 ⟨h.open2.1,h.open2.2.1,k.open2.1,k.open2.2.1⟩
section
variable {w:World}{a0 b0 a1 b1:Option Addr}{n0 k0 m0 j0 n1 k1 m1 j1:Nat}{p q:Pr}
set_option maxHeartbeats 1000000 in
theorem pplus_n (hx:Num w (.slice a0 n0 k0) p.lo) (hy:Num w (.slice b0 m0 j0) p.hi) (hz:Num w (.slice a1 n1 k1) q.lo) (hv:Num w (.slice b1 m1 j1) q.hi):
 Calls Tryz.prog 106 #[.agg #[.slice a0 n0 k0,.slice b0 m0 j0],.agg #[.slice a1 n1 k1,.slice b1 m1 j1]] w (OneP w (p.plus q)):=by
 unfold Pr.plus
 obtain⟨X,hX⟩:∃X,p.lo+q.lo=X:=⟨_,rfl⟩
 obtain⟨Y,hY⟩:∃Y,p.hi+q.hi=Y:=⟨_,rfl⟩
 rw[hX,hY]
 have eX:=Lib.hid hX;have eY:=Lib.hid hY
 clear hX hY
 go_enter Tryz.func106,Tryz.ntmps106
 go_upto_region 1 with fail
 have x1:=hx.below (below_3 (o1:= .cells #[.slice a0 n0 k0,.slice b0 m0 j0] 157 (0,0)) (o2:= .cells #[.slice a1 n1 k1,.slice b1 m1 j1] 157 (0,0)) (o3:= .cells #[.slice none 0 0,.slice none 0 0] 157 (0,0)))
 have y1:=hy.below (below_3 (o1:= .cells #[.slice a0 n0 k0,.slice b0 m0 j0] 157 (0,0)) (o2:= .cells #[.slice a1 n1 k1,.slice b1 m1 j1] 157 (0,0)) (o3:= .cells #[.slice none 0 0,.slice none 0 0] 157 (0,0)))
 have z1:=hz.below (below_3 (o1:= .cells #[.slice a0 n0 k0,.slice b0 m0 j0] 157 (0,0)) (o2:= .cells #[.slice a1 n1 k1,.slice b1 m1 j1] 157 (0,0)) (o3:= .cells #[.slice none 0 0,.slice none 0 0] 157 (0,0)))
 have v1:=hv.below (below_3 (o1:= .cells #[.slice a0 n0 k0,.slice b0 m0 j0] 157 (0,0)) (o2:= .cells #[.slice a1 n1 k1,.slice b1 m1 j1] 157 (0,0)) (o3:= .cells #[.slice none 0 0,.slice none 0 0] 157 (0,0)))
 have P1:Blk (((w.alloc (.cells #[.slice a0 n0 k0,.slice b0 m0 j0] 157 (0,0))).alloc (.cells #[.slice a1 n1 k1,.slice b1 m1 j1] 157 (0,0))).alloc (.cells #[.slice none 0 0,.slice none 0 0] 157 (0,0))) w.heap.size #[.slice a0 n0 k0,.slice b0 m0 j0]:=blk3_1
 have Q1:Blk (((w.alloc (.cells #[.slice a0 n0 k0,.slice b0 m0 j0] 157 (0,0))).alloc (.cells #[.slice a1 n1 k1,.slice b1 m1 j1] 157 (0,0))).alloc (.cells #[.slice none 0 0,.slice none 0 0] 157 (0,0))) (w.heap.size+1) #[.slice a1 n1 k1,.slice b1 m1 j1]:=blk3_2
 have R1:Blk (((w.alloc (.cells #[.slice a0 n0 k0,.slice b0 m0 j0] 157 (0,0))).alloc (.cells #[.slice a1 n1 k1,.slice b1 m1 j1] 157 (0,0))).alloc (.cells #[.slice none 0 0,.slice none 0 0] 157 (0,0))) (w.heap.size+1+1) #[.slice none 0 0,.slice none 0 0]:=blk3_3
 have B1:Below w.heap.size w (((w.alloc (.cells #[.slice a0 n0 k0,.slice b0 m0 j0] 157 (0,0))).alloc (.cells #[.slice a1 n1 k1,.slice b1 m1 j1] 157 (0,0))).alloc (.cells #[.slice none 0 0,.slice none 0 0] 157 (0,0))):=below_3
 clear hx hy hz hv
 have hs:w.heap.size≤w.heap.size+1+1:=by omega
 generalize (((w.alloc (.cells #[.slice a0 n0 k0,.slice b0 m0 j0] 157 (0,0))).alloc (.cells #[.slice a1 n1 k1,.slice b1 m1 j1] 157 (0,0))).alloc (.cells #[.slice none 0 0,.slice none 0 0] 157 (0,0)))=wb at*
 have D:Below wb.heap.size wb wb.drew:=below_drewN (Below.refl _ _) 1
 have x2:=x1.below D;have y2:=y1.below D;have z2:=z1.below D;have v2:=v1.below D
 have P2:=P1.below D;have Q2:=Q1.below D;have R2:=R1.below D;have B2:=B1.trans (D.mono B1.size)
 have k2:=Lib.hid (cells22 P2 Q2)
 clear x1 y1 z1 v1 P1 Q1 R1 B1 D
 go_region_held3 (fun w'=>w'.cell? ⟨w.heap.size,0,none⟩=some (.slice a0 n0 k0)∧w'.cell? ⟨w.heap.size,1,none⟩=some (.slice b0 m0 j0)∧w'.cell? ⟨w.heap.size+1,0,none⟩=some (.slice a1 n1 k1)∧w'.cell? ⟨w.heap.size+1,1,none⟩=some (.slice b1 m1 j1))
  (first|exact k2.out|exact k3.out|exact k4.out|exact cells22 (P4.other2 (by omega) _ _) (Q4.other2 (by omega) _ _))
  (first
    |(go_at_call 108;(with_reducible refine(add_n x2 z2 eX.out).mono ?_);rintro e w3 ⟨vl,rfl,rl,h3⟩;obtain⟨al,kl,rfl,-⟩:=rl.view;have y3:=y2.below h3;have v3:=v2.below h3;have P3:=P2.below h3;have Q3:=Q2.below h3;have R3:=R2.below h3;have B3:=B2.trans (h3.mono B2.size);have k3:=Lib.hid (cells22 P3 Q3))
    |(go_at_call 108;(with_reducible refine(add_n y2 v2 eY.out).mono ?_);rintro e w3 ⟨vh,rfl,rh,h3⟩;obtain⟨ah,kh,rfl,-⟩:=rh.view;have x3:=x2.below h3;have z3:=z2.below h3;have P3:=P2.below h3;have Q3:=Q2.below h3;have R3:=R2.below h3;have B3:=B2.trans (h3.mono B2.size);have k3:=Lib.hid (cells22 P3 Q3))
    |(go_at_call 108;(with_reducible refine(add_n y3 v3 eY.out).mono ?_);rintro e w4 ⟨vh,rfl,rh,h4⟩;obtain⟨ah,kh,rfl,-⟩:=rh.view;have rl4:=rl.below h4;have rh4:=rh;have R4:=R3.below h4;have B4:=B3.trans (h4.mono B3.size);have P4:=P3.below h4;have Q4:=Q3.below h4;have k4:=Lib.hid (cells22 P4 Q4);obtain⟨g0,g1,f0,f1,-⟩:=R4.open2)
    |(go_at_call 108;(with_reducible refine(add_n x3 z3 eX.out).mono ?_);rintro e w4 ⟨vl,rfl,rl,h4⟩;obtain⟨al,kl,rfl,-⟩:=rl.view;have rh4:=rh.below h4;have rl4:=rl;have R4:=R3.below h4;have B4:=B3.trans (h4.mono B3.size);have P4:=P3.below h4;have Q4:=Q3.below h4;have k4:=Lib.hid (cells22 P4 Q4);obtain⟨g0,g1,f0,f1,-⟩:=R4.open2)
    |fail)
 all_goals
  go_wp2_with fail
  obtain⟨q0,q1,-⟩:=(R4.set2 (.slice al (digs BB X).length kl) (.slice ah (digs BB Y).length kh)).open2
  refine bodyPost_ret (v:= .agg #[.slice al (digs BB X).length kl,.slice ah (digs BB Y).length kh]) (by simp[results,Tryz.results106,go_sem,q0,q1]) rfl ⟨_,_,_,_,_,_,rfl,rl4.set2 R4 pcells _ _,rh4.set2 R4 pcells _ _,?_⟩
  exact below_set (below_set B4 hs _) hs _
set_option maxHeartbeats 1000000 in
theorem prest_n (hx:RdN w (.slice a0 n0 k0) (digs BB p.lo)) (hy:Num w (.slice b0 m0 j0) p.hi) (hv:Num w (.slice b1 m1 j1) q.hi) (sv:bitN q.hi≤20000):
 Calls Tryz.prog 107 #[.agg #[.slice a0 n0 k0,.slice b0 m0 j0],.agg #[.slice a1 n1 k1,.slice b1 m1 j1]] w (OneP w (p.rest q)):=by
 unfold Pr.rest
 obtain⟨X,hX⟩:∃X,q.hi+q.hi=X:=⟨_,rfl⟩
 obtain⟨Y,hY⟩:∃Y,p.hi+X=Y:=⟨_,rfl⟩
 rw[hX,hY]
 have sX:bitN X≤2560000:=by rw[←hX];exact Nat.le_trans (bitN_add_le _ _) (by omega)
 have eX:=Lib.hid hX;have eY:=Lib.hid hY
 clear hX hY
 go_enter Tryz.func107,Tryz.ntmps107
 go_upto_region 1 with fail
 have x1:=hx.below (below_3 (o1:= .cells #[.slice a0 n0 k0,.slice b0 m0 j0] 157 (0,0)) (o2:= .cells #[.slice a1 n1 k1,.slice b1 m1 j1] 157 (0,0)) (o3:= .cells #[.slice none 0 0,.slice none 0 0] 157 (0,0)))
 have y1:=hy.below (below_3 (o1:= .cells #[.slice a0 n0 k0,.slice b0 m0 j0] 157 (0,0)) (o2:= .cells #[.slice a1 n1 k1,.slice b1 m1 j1] 157 (0,0)) (o3:= .cells #[.slice none 0 0,.slice none 0 0] 157 (0,0)))
 have v1:=hv.below (below_3 (o1:= .cells #[.slice a0 n0 k0,.slice b0 m0 j0] 157 (0,0)) (o2:= .cells #[.slice a1 n1 k1,.slice b1 m1 j1] 157 (0,0)) (o3:= .cells #[.slice none 0 0,.slice none 0 0] 157 (0,0)))
 have P1:Blk (((w.alloc (.cells #[.slice a0 n0 k0,.slice b0 m0 j0] 157 (0,0))).alloc (.cells #[.slice a1 n1 k1,.slice b1 m1 j1] 157 (0,0))).alloc (.cells #[.slice none 0 0,.slice none 0 0] 157 (0,0))) w.heap.size #[.slice a0 n0 k0,.slice b0 m0 j0]:=blk3_1
 have Q1:Blk (((w.alloc (.cells #[.slice a0 n0 k0,.slice b0 m0 j0] 157 (0,0))).alloc (.cells #[.slice a1 n1 k1,.slice b1 m1 j1] 157 (0,0))).alloc (.cells #[.slice none 0 0,.slice none 0 0] 157 (0,0))) (w.heap.size+1) #[.slice a1 n1 k1,.slice b1 m1 j1]:=blk3_2
 have R1:Blk (((w.alloc (.cells #[.slice a0 n0 k0,.slice b0 m0 j0] 157 (0,0))).alloc (.cells #[.slice a1 n1 k1,.slice b1 m1 j1] 157 (0,0))).alloc (.cells #[.slice none 0 0,.slice none 0 0] 157 (0,0))) (w.heap.size+1+1) #[.slice none 0 0,.slice none 0 0]:=blk3_3
 have B1:Below w.heap.size w (((w.alloc (.cells #[.slice a0 n0 k0,.slice b0 m0 j0] 157 (0,0))).alloc (.cells #[.slice a1 n1 k1,.slice b1 m1 j1] 157 (0,0))).alloc (.cells #[.slice none 0 0,.slice none 0 0] 157 (0,0))):=below_3
 clear hx hy hv
 have hs:w.heap.size≤w.heap.size+1+1:=by omega
 generalize (((w.alloc (.cells #[.slice a0 n0 k0,.slice b0 m0 j0] 157 (0,0))).alloc (.cells #[.slice a1 n1 k1,.slice b1 m1 j1] 157 (0,0))).alloc (.cells #[.slice none 0 0,.slice none 0 0] 157 (0,0)))=wb at*
 have D:Below wb.heap.size wb wb.drew:=below_drewN (Below.refl _ _) 1
 have x2:=x1.below D;have y2:=y1.below D;have v2:=v1.below D
 have P2:=P1.below D;have Q2:=Q1.below D;have R2:=R1.below D;have B2:=B1.trans (D.mono B1.size)
 have k2:=Lib.hid (cells22 P2 Q2)
 clear x1 y1 v1 P1 Q1 R1 B1 D
 go_region_held3 (fun w'=>w'.cell? ⟨w.heap.size,0,none⟩=some (.slice a0 n0 k0)∧w'.cell? ⟨w.heap.size,1,none⟩=some (.slice b0 m0 j0)∧w'.cell? ⟨w.heap.size+1,0,none⟩=some (.slice a1 n1 k1)∧w'.cell? ⟨w.heap.size+1,1,none⟩=some (.slice b1 m1 j1))
  (first|exact k2.out|exact k3.out|exact k4.out|exact cells22 (P4.other2 (by omega) _ _) (Q4.other2 (by omega) _ _))
  (first
    |(go_at_call 108;(with_reducible refine(add_n v2 v2 eX.out).mono ?_);rintro e w3 ⟨vs,rfl,rs,h3⟩;obtain⟨aq,kq,rfl,-⟩:=rs.view;have x3:=x2.below h3;have y3:=y2.below h3;have P3:=P2.below h3;have Q3:=Q2.below h3;have R3:=R2.below h3;have B3:=B2.trans (h3.mono B2.size);have k3:=Lib.hid (cells22 P3 Q3))
    |(go_at_call 108;(with_reducible refine(add_n y3 (rs.num sX) eY.out).mono ?_);rintro e w4 ⟨vh,rfl,rh4,h4⟩;obtain⟨ah,kh,rfl,-⟩:=rh4.view;have rl4:=x3.below h4;have R4:=R3.below h4;have B4:=B3.trans (h4.mono B3.size);have P4:=P3.below h4;have Q4:=Q3.below h4;have k4:=Lib.hid (cells22 P4 Q4);obtain⟨g0,g1,f0,f1,-⟩:=R4.open2)
    |fail)
 all_goals
  go_wp2_with fail
  obtain⟨q0,q1,-⟩:=(R4.set2 (.slice a0 n0 k0) (.slice ah (digs BB Y).length kh)).open2
  refine bodyPost_ret (v:= .agg #[.slice a0 n0 k0,.slice ah (digs BB Y).length kh]) (by simp[results,Tryz.results107,go_sem,q0,q1]) rfl ⟨_,_,_,_,_,_,rfl,rl4.set2 R4 pcells _ _,rh4.set2 R4 pcells _ _,?_⟩
  exact below_set (below_set B4 hs _) hs _
end
end Go.Proofs.YtffaefjkpipjnaaGreatDoor
