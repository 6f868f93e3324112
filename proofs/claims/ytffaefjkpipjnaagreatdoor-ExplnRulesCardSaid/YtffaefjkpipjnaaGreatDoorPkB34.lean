/- What is Certified of exp, ln and exp less 1 is a rounding of the value: plainly. Conditions: none. -/
import Derived.Test.YtffaefjkpipjnaaGreatDoorPkB32
import Derived.Test.YtffaefjkpipjnaaGreatDoorPkB24
import Derived.Test.YtffaefjkpipjnaaGreatDoorPkB33
namespace Go.Proofs.YtffaefjkpipjnaaGreatDoor
set_option linter.unusedVariables false
set_option linter.unusedSimpArgs false
set_option maxRecDepth 100000
open Go.RowKit
def RgP (P:Rat→Rat→Prop) (n:Bool) (dir:Int) (b:Nat) (f:Int):Prop:=
 ∃M1 E1 M2 E2,End n M1 E1 dir b f∧End n M2 E2 dir b f∧P ((M1:Rat)*pw E1) ((M2:Rat)*pw E2)
theorem run_rg {Iv:Nat→Dn→Dn→Prop}{neg:Bool}{dir f tr:Int}{l:List Nat}{b:Nat}(h:RunR Iv neg dir l b f 0 tr):∃n lo hi,Iv n lo hi∧(lo.neg=false∧hi.neg=false)∧End neg lo.m lo.e dir b f∧End neg hi.m hi.e dir b f:=by
 rcases h with⟨-,i,n,lo,hi,h9,hn,ht,-,hI,hB,hd⟩|⟨h,-⟩
 ·obtain⟨-,hn,i1,i2,z1,z2,t1,t2⟩:=dec_ends hd
  have hf:=toB_inexact (bareD_oddM (n:=lo.neg) (n':=lo.neg) (E:=lo.e) (E':=lo.e) hB.q1 z1) i1 t1
  exact⟨n,lo,hi,hI,hn,⟨z1,t1,hf⟩,⟨z2,t2,hf⟩⟩
 ·exact absurd h (by decide)
theorem qv_size {d:Dn}(h:d.neg=false):qv d=(d.m:Rat)*pw d.e:=by
 unfold qv
 rw[h];rfl
theorem pw_big (r:Rat):∃N:Nat,r≤pw (N:Int):=by
 obtain⟨n,hn⟩:=rq_arch (c:=r) (r:=1) (by decide)
 refine⟨n,?_⟩
 rw[pw_nat]
 have h1:(n:Rat)≤((2^n:Nat):Rat):=rq_le (Nat.le_of_lt Nat.lt_two_pow_self)
 grind
theorem pw_little {r:Rat}(hr:0<r) (k:Nat):∃N:Nat,k≤N∧pw (-(N:Int))≤r:=by
 obtain⟨N,hN⟩:=pw_big (r⁻¹)
 refine⟨max N k,by omega,?_⟩
 have h1:=pw_mono (show(N:Int)≤((max N k:Nat):Int)by omega)
 have h2:=pw_neg ((max N k:Nat):Int)
 obtain⟨i1,i2⟩:=rq_inv_pos hr
 have h3:r⁻¹≤pw ((max N k:Nat):Int):=Rat.le_trans hN h1
 have h4:=Rat.mul_le_mul_of_nonneg_left h3 (Rat.le_of_lt (pw_pos (-((max N k:Nat):Int))))
 rw[h2]at h4
 have h5:=Rat.mul_le_mul_of_nonneg_right h4 (Rat.le_of_lt hr)
 rw[Rat.mul_assoc,i2,Rat.mul_one,Rat.one_mul]at h5
 exact h5
theorem exp_below (v:Rat):∃N:Nat,XL v 1 (pw (N:Int)):=by
 rcases rq_total v 0 with h|h
 ·exact⟨0,XL.neg_one h (by decide)⟩
 ·obtain⟨e,h1,he⟩:=exA_bounded h
  obtain⟨N,hN⟩:=pw_big e
  exact⟨N,XL.of_series h (by decide) (fun K=>by have:=he K;grind)⟩
theorem exp_above (v:Rat):∃N:Nat,XL (-v) (pw (-(N:Int))) 1:=by
 obtain⟨N,hN⟩:=exp_below (-v)
 have h:=hN.scale (pw_pos (-(N:Int)))
 have h2:=pw_neg (N:Int)
 rw[Rat.mul_comm]at h2
 rw[Rat.one_mul,h2]at h
 exact⟨N,h⟩
theorem one_m (E:Int):((1:Nat):Rat)*pw E=pw E:=Rat.one_mul _
theorem above_m (N:Nat):((2^N+1:Nat):Rat)*pw (-(N:Int))=1+pw (-(N:Int)):=by
 have:=pw_unit N
 rw[Rat.natCast_add,Rat.add_mul,this,one_m]
theorem below_m (N:Nat):((2^N-1:Nat):Rat)*pw (-(N:Int))=1-pw (-(N:Int)):=by
 have h1:=pw_unit N
 have h2:((2^N-1:Nat):Rat)=((2^N:Nat):Rat)-1:=by
  have h3:((2^N-1+1:Nat):Rat)=((2^N-1:Nat):Rat)+1:=by rw[Rat.natCast_add];rfl
  rw[Nat.sub_add_cancel (Nat.two_pow_pos N)]at h3
  grind
 rw[h2]
 grind
theorem exp_rg {d:Dn}{fr pt b:Nat}{dir f tr:Int}(h:ExpRes d fr pt dir b f 0 tr) (d0:0≤dir) (d3:dir≤3) (h0:d.m≠0):RgP (fun a c=>XL (-(qv d)) a 1∧XL (qv d) 1 c) false dir b f:=by
 rcases h with⟨hc,hr,-,-⟩|⟨hc,l,hl,hr⟩
 ·have g:¬(dir<0∨3<dir):=by omega
  have hs:signD d≠0:=by unfold signD;rw[if_neg h0];split<;>decide
  rcases class_val (d:=d) (k:=clsN d) rfl rfl rfl rfl rfl rfl with hk|⟨hk,hv⟩|⟨hk,hv⟩|⟨hk,hv,hv2⟩|⟨hk,hv,hv2⟩
  ·exact absurd hk hc
  ·
   rw[hk]at hr
   unfold resB at hr
   rw[if_neg g,if_pos rfl]at hr
   injection hr with e1 e2;injection e2 with e2 e3
   obtain⟨N,hN⟩:=exp_below (qv d)
   have hp:=pw_pos 1024
   have k1:=pw_exp (n:=1024) (q:=qv d) (by have:((1024:Nat):Rat)=1024:=rfl
                                           rw[this];grind)
   rw[show((1024:Nat):Int)=1024 from rfl]at k1
   have k2:XL (-(qv d)) (pw 1024) 1:=k1.down hp (by grind)
   have k3:pw 1024≤pw ((N:Nat):Int):=exp_le k2 hN
   refine⟨1,1024,1,(N:Int),⟨by decide,?_,by rw[←e2];decide⟩,⟨by decide,?_,by rw[←e2];decide⟩,by rw[one_m];exact k2,by rw[one_m];exact hN⟩
   ·rw[round_over (by rw[one_m];exact Rat.le_refl),e1,e2]
   ·rw[round_over (by rw[one_m];exact k3),e1,e2]
  ·
   rw[hk]at hr
   unfold resB at hr
   rw[if_neg g,if_neg (by decide),if_pos rfl]at hr
   injection hr with e1 e2;injection e2 with e2 e3
   obtain⟨N,hN⟩:=exp_above (qv d)
   have hp:=pw_pos (-1075)
   have k1:=pw_exp (n:=1075) (q:= -(qv d)) (by have:((1075:Nat):Rat)=1075:=rfl
                                               rw[this];grind)
   rw[show((1075:Nat):Int)=1075 from rfl,show- -(qv d)=qv d by grind]at k1
   have hq:((15:Nat):Rat)*pw (-1079)=pw (-1075)*(15/16):=by
    have:pw (-1075)=pw (-1079)*pw 4:=by rw[←pw_add];rfl
    have e4:pw 4=16:=by have:=pw_nat 4;rw[show((4:Nat):Int)=4 from rfl]at this;rw[this];decide+kernel
    rw[this,e4]
    have:((15:Nat):Rat)=15:=rfl
    rw[this];grind
   have hu:pw 1075*pw (-1075)=1:=by have:=pw_neg 1075;grind
   have k2:=k1.scale (show 0<pw (-1075)*(15/16)from Rat.mul_pos hp (by decide+kernel))
   have k3:XL (qv d) 1 (((15:Nat):Rat)*pw (-1079)):=by
    rw[hq]
    refine(k2.down (c':=1) (by decide) ?_).up (by rw[Rat.one_mul];exact Rat.le_refl)
    have:pw 1075*(11/10)*(pw (-1075)*(15/16))=pw 1075*pw (-1075)*(165/160):=by grind
    rw[this,hu]
    decide+kernel
   have k4:((15:Nat):Rat)*pw (-1079)<pw (-1075):=by rw[hq];grind
   have k5:pw (-(N:Int))<pw (-1075):=by
    have:=exp_le hN k3
    grind
   refine⟨1,-(N:Int),15,-1079,⟨by decide,?_,by rw[←e2];decide⟩,⟨by decide,?_,by rw[←e2];decide⟩,by rw[one_m];exact hN,k3⟩
   ·rw[round_under (by decide) (by rw[one_m];exact k5),e1,e2]
   ·rw[round_under (by decide) k4,e1,e2]
  ·
   rw[hk]at hr
   unfold resB at hr
   rw[if_neg g,if_neg (by decide),if_neg (by decide),if_pos rfl]at hr
   injection hr with e1 e2;injection e2 with e2 e3
   obtain⟨N,hN1,hN2⟩:=pw_little hv 54
   obtain⟨t1,t2,t3,t4,t5⟩:=tiny_175
   have hpN:=pw_pos (-(N:Int))
   have k1:XL (-(qv d)) (1+pw (-(N:Int))) 1:=(XL.neg_lin (Rat.le_of_lt hv)).down (by grind) (by grind)
   have h59:pw (-59)=pw (-60)*2:=by rw[←pw_one,←pw_add];rfl
   have k2:XL (qv d) 1 (1+pw (-59)):=by
    have a:=XL.pos_lin (q:=qv d) (Rat.le_of_lt hv) (by grind)
    have hp1:0<1-qv d:=by grind
    obtain⟨i1,i2⟩:=rq_inv_pos hp1
    have a2:=a.scale i1
    rw[Rat.mul_comm (1-qv d),i2,Rat.one_mul]at a2
    refine a2.up ?_
    have h3:1≤(1+pw (-59))*(1-qv d):=by
     rw[h59]
     generalize pw (-60)=z at*
     generalize qv d=v at*
     have b1:=Rat.mul_nonneg (show 0≤z-v by grind) (show 0≤1+2*z by grind)
     have b2:=Rat.mul_nonneg (show 0≤z by grind) (show 0≤1-2*z by grind)
     grind
    have h4:=Rat.mul_le_mul_of_nonneg_right h3 (Rat.le_of_lt i1)
    rw[Rat.one_mul,Rat.mul_assoc,Rat.mul_comm (1-qv d),i2,Rat.mul_one]at h4
    exact h4
   have a59:=above_m 59
   rw[show((59:Nat):Int)=59 from rfl]at a59
   have h54:pw (-(N:Int))<pw (-53):=pw_lt (by omega)
   refine⟨2^N+1,-(N:Int),2^59+1,-59,⟨Nat.succ_ne_zero _,?_,by rw[←e2];decide⟩,⟨by decide,?_,by rw[←e2];decide⟩,by rw[above_m];exact k1,by rw[a59];exact k2⟩
   ·rw[round_above (by rw[above_m];grind) (by rw[above_m];grind),e1,e2]
   ·rw[round_above (by rw[a59];have:=pw_pos (-59);grind) (by rw[a59];grind),e1,e2]
  ·
   rw[hk]at hr
   unfold resB at hr
   rw[if_neg g,if_neg (by decide),if_neg (by decide),if_neg (by decide),if_pos rfl]at hr
   injection hr with e1 e2;injection e2 with e2 e3
   have hv0:0< -(qv d):=by grind
   have hv1: -(qv d)<pw (-60):=by grind
   obtain⟨N,hN1,hN2⟩:=pw_little (show 0< -(qv d)*(1/2)from Rat.mul_pos hv0 (by decide+kernel)) 55
   obtain⟨t1,t2,t3,t4,t5⟩:=tiny_175
   have hpN:=pw_pos (-(N:Int))
   have b60:=below_m 60
   rw[show((60:Nat):Int)=60 from rfl]at b60
   have k1:XL (-(qv d)) (1-pw (-60)) 1:=(XL.pos_lin (q:= -(qv d)) (Rat.le_of_lt hv0) (by grind)).down (by grind) (by grind)
   have k2:XL (qv d) 1 (1-pw (-(N:Int))):=by
    have a:=XL.neg_lin (q:= -(qv d)) (Rat.le_of_lt hv0)
    rw[show- -(qv d)=qv d by grind]at a
    have hp1:0<1+ -(qv d):=by grind
    obtain⟨i1,i2⟩:=rq_inv_pos hp1
    have a2:=a.scale i1
    rw[Rat.mul_comm (1+ -(qv d)),i2,Rat.one_mul]at a2
    refine a2.up ?_
    have h3:1≤(1-pw (-(N:Int)))*(1+ -(qv d)):=by
     generalize pw (-(N:Int))=z at*
     generalize-(qv d)=v at*
     have b1:=Rat.mul_nonneg (show 0≤v*(1/2)-z by grind) (show 0≤1+v by grind)
     have b2:=Rat.mul_nonneg (show 0≤v by grind) (show 0≤1-v by grind)
     grind
    have h4:=Rat.mul_le_mul_of_nonneg_right h3 (Rat.le_of_lt i1)
    rw[Rat.one_mul,Rat.mul_assoc,Rat.mul_comm (1+ -(qv d)),i2,Rat.mul_one]at h4
    exact h4
   have h55:pw (-(N:Int))<pw (-54):=pw_lt (by omega)
   have h2N:2^1≤2^N:=Nat.pow_le_pow_right (by decide) (by omega)
   refine⟨2^60-1,-60,2^N-1,-(N:Int),⟨by decide,?_,by rw[←e2];decide⟩,⟨by omega,?_,by rw[←e2];decide⟩,by rw[b60];exact k1,by rw[below_m];exact k2⟩
   ·rw[round_below (by rw[b60];grind) (by rw[b60];have:=pw_pos (-60);grind),e1,e2]
   ·rw[round_below (by rw[below_m];grind) (by rw[below_m];grind),e1,e2]
 ·obtain⟨n,lo,hi,⟨k,L,H,-,-,-,o⟩,⟨n1,n2⟩,o1,o2⟩:=run_rg hr
  refine⟨_,_,_,_,o1,o2,?_,?_⟩
  ·rw[←qv_size n1];exact o.x1
  ·rw[←qv_size n2];exact o.x2
theorem toB_beyond {neg:Bool}{M M':Nat}{E E' dir:Int}(h0:M≠0) (hxy:(M:Rat)*pw E<(M':Rat)*pw E')
 (hno:∀P F,P%2=1→isBrk P F=true→(M:Rat)*pw E<(P:Rat)*pw F→(P:Rat)*pw F≤(M':Rat)*pw E'→False):toB neg M E true dir=toB neg M' E' false dir:=by
 have hp0:0<(M:Rat)*pw E:=Rat.mul_pos (rq_nat_pos (Nat.pos_of_ne_zero h0)) (pw_pos _)
 have h0':M'≠0:=fun h=>by
  rw[h,show((0:Nat):Rat)=0 from rfl,Rat.zero_mul]at hxy
  grind
 obtain⟨a1,a2⟩:=top_in (n:=neg) (E:=E) h0
 obtain⟨c1,c2⟩:=top_in (n:=neg) (E:=E') h0'
 have hle:=top_mono (n:=neg) (n':=neg) h0 h0' (Rat.le_of_lt hxy)
 unfold toB
 by_cases g1:1023<topD ⟨neg,M',E'⟩
 ·have g2:1023<topD ⟨neg,M,E⟩:=by
   rcases Int.lt_or_le 1023 (topD ⟨neg,M,E⟩)with h|h
   ·exact h
   ·exfalso
    refine hno 1 1024 rfl (by rw[isBrk_one];decide) ?_ ?_
    ·rw[one_m]
     have:=pw_mono (show topD ⟨neg,M,E⟩+1≤1024 by omega)
     grind
    ·rw[one_m]
     have:=pw_mono (show 1024≤topD ⟨neg,M',E'⟩by omega)
     grind
  rw[if_pos g1,if_pos g2]
 ·have g2:¬1023<topD ⟨neg,M,E⟩:=by omega
  rw[if_neg g1,if_neg g2]
  by_cases g3:topD ⟨neg,M',E'⟩< -1075
  ·rw[if_pos g3,if_pos (by omega)]
  ·have ht:topD ⟨neg,M,E⟩=topD ⟨neg,M',E'⟩:=by
    rcases Int.lt_or_le (topD ⟨neg,M,E⟩) (topD ⟨neg,M',E'⟩)with h|h
    ·exfalso
     refine hno 1 (topD ⟨neg,M',E'⟩) rfl (by rw[isBrk_one,Bool.and_eq_true];exact⟨decide_eq_true (by omega),decide_eq_true (by omega)⟩) ?_ ?_
     ·rw[one_m]
      have:=pw_mono (show topD ⟨neg,M,E⟩+1≤topD ⟨neg,M',E'⟩by omega)
      grind
     ·rw[one_m];exact c1
    ·omega
   rw[if_neg g3,if_neg (by omega)]
   unfold sizeB flagB sizeB
   rw[ht]
   rw[ht]at a1 a2
   generalize topD ⟨neg,M',E'⟩=t at*
   obtain⟨q,h,b,hp⟩:∃q h b,partsP M E (unitB t)=(q,h,b):=⟨_,_,_,rfl⟩
   obtain⟨q',h',b',hp'⟩:∃q h b,partsP M' E' (unitB t)=(q,h,b):=⟨_,_,_,rfl⟩
   obtain⟨m1,m2⟩:=parts_mono hp hp' (Rat.le_of_lt hxy)
   obtain⟨x1,x2,x3,x4⟩:=parts_val hp
   obtain⟨y1,y2,y3,y4⟩:=parts_val hp'
   have hpu:=pw_pos (1-unitB t)
   have hpv:=pw_pos (unitB t-1)
   have huv:pw (1-unitB t)*pw (unitB t-1)=1:=by rw[←pw_add,show 1-unitB t+(unitB t-1)=0 by omega];exact pw_zero
   have hbrk:∀j:Nat,(M:Rat)*pw E<(j:Rat)*pw (unitB t-1)→(j:Rat)*pw (unitB t-1)≤(M':Rat)*pw E'→False:=fun j j1 j2=>by
    obtain⟨P,F,p1,p2,p3⟩:=brk_of (j:=j) (u:=unitB t) (t:=t) (by grind) (by grind) (by omega) rfl
    exact hno P F p1 p2 (by rw[p3];exact j1) (by rw[p3];exact j2)
   have down:∀{v:Rat}{j:Nat},(j:Rat)≤v*pw (1-unitB t)→(j:Rat)*pw (unitB t-1)≤v:=fun{v j} hj=>by
    have:=Rat.mul_le_mul_of_nonneg_right hj (Rat.le_of_lt hpv)
    rw[Rat.mul_assoc,huv,Rat.mul_one]at this
    exact this
   have up:∀{v:Rat}{j:Nat},v*pw (1-unitB t)<(j:Rat)→v<(j:Rat)*pw (unitB t-1):=fun{v j} hj=>by
    have:=Rat.mul_lt_mul_of_pos_right hj hpv
    rw[Rat.mul_assoc,huv,Rat.mul_one]at this
    exact this
   have hb2:b'=true:=by
    cases b'
    ·exfalso
     have e:=y3 rfl
     refine hbrk (2*q'+hb h') (up ?_) (down (by rw[e];exact Rat.le_refl))
     have:=Rat.mul_lt_mul_of_pos_right hxy hpu
     rw[e]at this
     exact this
    ·rfl
   have hjj:2*q+hb h=2*q'+hb h':=by
    rcases Nat.lt_or_ge (2*q+hb h) (2*q'+hb h')with hlt|hge
    ·exfalso
     refine hbrk (2*q'+hb h') (up ?_) (down y1)
     have:((2*q+hb h+1:Nat):Rat)≤((2*q'+hb h':Nat):Rat):=Rat.natCast_le_natCast.2 hlt
     rw[Rat.natCast_add]at this
     have e1:((1:Nat):Rat)=1:=rfl
     grind
    ·omega
   have hqh:q=q'∧h=h':=by
    have t1:=hb_cases h
    have t2:=hb_cases h'
    rcases t1 with⟨e1,f1⟩|⟨e1,f1⟩<;>rcases t2 with⟨e2,f2⟩|⟨e2,f2⟩
    ·exact⟨by omega,by rw[e1,e2]⟩
    ·exfalso;omega
    ·exfalso;omega
    ·exact⟨by omega,by rw[e1,e2]⟩
   obtain⟨rfl,rfl⟩:=hqh
   have hw:wholeP neg M E true dir (unitB t)=wholeP neg M' E' false dir (unitB t):=by
    unfold wholeP
    rw[hp,hp',hb2,Bool.or_true,Bool.or_false]
   rw[hw]
def HoldE (v a c:Rat):Prop:=XL (-v) a 1∧XL v 1 c
def HoldL (n:Bool) (v a c:Rat):Prop:=if n=true then XL a v 1∧XL (-c) 1 v else XL a 1 v∧XL (-c) v 1
def HoldX (n:Bool) (v a c:Rat):Prop:=if n=true then XL v 1 (1-a)∧(1≤c∨XL (-v) (1-c) 1)else XL (-v) (1+a) 1∧XL v 1 (1+c)
theorem ln_rg {x fr pt b:Nat}{dir f tr:Int}(h:LnRes x fr pt dir b f 0 tr):RgP (HoldL (decide (x<4607182418800017408)) (qv (dyB x))) (decide (x<4607182418800017408)) dir b f:=by
 obtain⟨l,hl,hr⟩:=h
 generalize decide (x<4607182418800017408)=ng at*
 obtain⟨n,lo,hi,⟨l',h',o,e1,e2⟩,⟨n1,n2⟩,o1,o2⟩:=run_rg hr
 rw[qv_size n1]at e1
 rw[qv_size n2]at e2
 refine⟨_,_,_,_,o1,o2,?_⟩
 have hln:=o.ln
 unfold HoldL
 cases ng
 ·rw[if_neg (by decide)]at e1 e2⊢
  rw[e1,e2]
  exact⟨hln.lo,hln.hi⟩
 ·rw[if_pos rfl]at e1 e2⊢
  rw[e1,e2]
  exact⟨hln.hi,by rw[show- -qv l'=qv l' by grind];exact hln.lo⟩
theorem flt_grid {x:Nat}(hf:fldN x<2047) (h0:(dyB x).m≠0):(dyB x).neg=negN x∧((dyB x).m:Rat)*pw (dyB x).e=(mntN x:Rat)*pw (expN x)∧unitB (topD (dyB x))≤expN x∧-1074≤expN x:=by
 obtain⟨hm,hb,h53,hv⟩:=dyB_mid hf
 have hM:mntN x≠0:=fun h=>h0 (by unfold dyB;rw[bareD_zero (show(⟨negN x,mntN x,expN x⟩:Dn).m=0 from h)])
 have he1: -1074≤expN x:=by unfold expN;omega
 have he2:expN x≤971:=by unfold expN;omega
 have hd:dyB x=⟨negN x,mntN x/2^low2 (mntN x),cutE (expN x)+(low2 (mntN x):Nat)⟩:=by
  unfold dyB
  rw[bareD_pos (show(⟨negN x,mntN x,expN x⟩:Dn).m≠0 from hM)]
 have hc:cutE (expN x)=expN x:=by unfold cutE;omega
 have hl:=bitN_low2 hM
 have hb:=mnt_bits x
 have hn:(dyB x).neg=negN x:=by rw[hd]
 have hval:((dyB x).m:Rat)*pw (dyB x).e=(mntN x:Rat)*pw (expN x):=by
  unfold qv at hv
  rw[hn]at hv
  dsimp only at hv
  generalize negN x=g at hv
  cases g
  ·rw[if_neg (by decide),if_neg (by decide)]at hv;exact hv
  ·rw[if_pos rfl,if_pos rfl]at hv;grind
 have ht:topD (dyB x)=(bitN (mntN x):Int)-1+expN x:=by
  rw[hd]
  unfold topD
  dsimp only
  rw[hc]
  omega
 refine⟨hn,hval,?_,he1⟩
 rw[ht]
 unfold unitB
 omega
theorem grid_step {j N:Nat}{g p s:Rat}(hg:0<g) (hp:p=(j:Rat)*g) (hs:s=(N:Rat)*g) (h:s<p):g≤p-s:=by
 have h1:N<j:=by
  rcases Nat.lt_or_ge N j with h2|h2
  ·exact h2
  ·exfalso
   have:=Rat.mul_le_mul_of_nonneg_right (rq_le h2) (Rat.le_of_lt hg)
   rw[hp,hs]at h
   grind
 have h2:=rq_le (show N+1≤j by omega)
 rw[Rat.natCast_add]at h2
 have h3:=Rat.mul_le_mul_of_nonneg_right h2 (Rat.le_of_lt hg)
 rw[hp,hs]
 have e1:((1:Nat):Rat)=1:=rfl
 rw[e1]at h3
 grind
theorem grid_fine {M:Nat}{E u:Int}(h:u≤E):∃N:Nat,(M:Rat)*pw E=(N:Rat)*pw u:=by
 refine⟨M*2^(E-u).toNat,?_⟩
 rw[Rat.natCast_mul,←pw_nat,Rat.mul_assoc,←pw_add]
 congr 2
 omega
theorem gap_above {x P:Nat}{F:Int}(hf:fldN x<2047) (h0:(dyB x).m≠0) (ht:topD (dyB x)≤1000) (hb:isBrk P F=true) (hP:P≠0) (h1:(mntN x:Rat)*pw (expN x)<(P:Rat)*pw F) (h2:(P:Rat)*pw F≤(mntN x:Rat)*pw (expN x)*(1+pw (-59))):False:=by
 obtain⟨-,hval,hu,-⟩:=flt_grid hf h0
 obtain⟨a1,a2⟩:=top_in (n:=(dyB x).neg) (E:=(dyB x).e) h0
 rw[hval]at a1 a2
 have e0:topD ⟨(dyB x).neg,(dyB x).m,(dyB x).e⟩=topD (dyB x):=rfl
 rw[e0]at a1 a2
 generalize topD (dyB x)=t at*
 obtain⟨c1,c2⟩:=top_in (n:=false) (E:=F) hP
 obtain⟨tp,htp⟩:∃tp,topD ⟨false,P,F⟩=tp:=⟨_,rfl⟩
 rw[htp]at c1 c2
 have hs:0<(mntN x:Rat)*pw (expN x):=by have:=pw_pos t;grind
 have h59:pw (-59)≤1:=by have:=pw_mono (show(-59:Int)≤0 by decide);rw[pw_zero]at this;exact this
 have e2:pw (t+2)=pw (t+1)*2:=by rw[←pw_one,←pw_add];congr 1;omega
 have hhi:(P:Rat)*pw F<pw (t+2):=by
  have:=Rat.mul_le_mul_of_nonneg_left h59 (Rat.le_of_lt hs)
  grind
 have k1:t≤tp:=by
  rcases Int.lt_or_le tp t with h|h
  ·exfalso;have:=pw_mono (show tp+1≤t by omega);grind
  ·exact h
 have k2:tp<t+2:=by
  rcases Int.lt_or_le tp (t+2)with h|h
  ·exact h
  ·exfalso;have:=pw_mono h;grind
 obtain⟨j,hj⟩:=brk_grid hb htp (by omega)
 obtain⟨j',hj'⟩:=grid_fine (M:=j) (E:=unitB tp-1) (u:=unitB t-1) (by unfold unitB;omega)
 obtain⟨N,hN⟩:=grid_fine (M:=mntN x) (E:=expN x) (u:=unitB t-1) (by omega)
 have hg:=pw_pos (unitB t-1)
 have h3:=grid_step hg (hj.trans hj') hN h1
 have h4:=pw_mono (show t-57≤unitB t-1 by unfold unitB;omega)
 have h5:(mntN x:Rat)*pw (expN x)*pw (-59)<pw (t+1)*pw (-59):=Rat.mul_lt_mul_of_pos_right a2 (pw_pos _)
 rw[←pw_add,show t+1+ -59=t-58 by omega]at h5
 have h6:=pw_lt (show t-58<t-57 by omega)
 grind
theorem gap_below {x P:Nat}{F:Int}(hf:fldN x<2047) (h0:(dyB x).m≠0) (ht:topD (dyB x)≤1000) (hb:isBrk P F=true) (hP:P≠0) (h1:(P:Rat)*pw F<(mntN x:Rat)*pw (expN x)) (h2:(mntN x:Rat)*pw (expN x)*(1-pw (-59))≤(P:Rat)*pw F):False:=by
 obtain⟨-,hval,hu,-⟩:=flt_grid hf h0
 obtain⟨a1,a2⟩:=top_in (n:=(dyB x).neg) (E:=(dyB x).e) h0
 rw[hval]at a1 a2
 have e0:topD ⟨(dyB x).neg,(dyB x).m,(dyB x).e⟩=topD (dyB x):=rfl
 rw[e0]at a1 a2
 generalize topD (dyB x)=t at*
 obtain⟨c1,c2⟩:=top_in (n:=false) (E:=F) hP
 obtain⟨tp,htp⟩:∃tp,topD ⟨false,P,F⟩=tp:=⟨_,rfl⟩
 rw[htp]at c1 c2
 have hs:0<(mntN x:Rat)*pw (expN x):=by have:=pw_pos t;grind
 have h59:pw (-59)≤1/2:=by
  have h:=pw_mono (show(-59:Int)≤-1 by decide)
  have h2:pw (-1)*2=1:=by rw[←pw_one,←pw_add];rfl
  grind
 have e2:pw t=pw (t-1)*2:=by rw[←pw_one,←pw_add];congr 1;omega
 have hlo:pw (t-1)≤(P:Rat)*pw F:=by
  have:=Rat.mul_le_mul_of_nonneg_left h59 (Rat.le_of_lt hs)
  grind
 have k1:t-1≤tp:=by
  rcases Int.lt_or_le tp (t-1)with h|h
  ·exfalso;have:=pw_mono (show tp+1≤t-1 by omega);grind
  ·exact h
 have k2:tp<t+1:=by
  rcases Int.lt_or_le tp (t+1)with h|h
  ·exact h
  ·exfalso;have:=pw_mono h;grind
 obtain⟨j,hj⟩:=brk_grid hb htp (by omega)
 obtain⟨j',hj'⟩:=grid_fine (M:=j) (E:=unitB tp-1) (u:=unitB (t-1)-1) (by unfold unitB;omega)
 obtain⟨N,hN⟩:=grid_fine (M:=mntN x) (E:=expN x) (u:=unitB (t-1)-1) (by unfold unitB at hu⊢;omega)
 have hg:=pw_pos (unitB (t-1)-1)
 have h3:=grid_step hg hN (hj.trans hj') h1
 have h4:=pw_mono (show t-57≤unitB (t-1)-1 by unfold unitB;omega)
 have h5:(mntN x:Rat)*pw (expN x)*pw (-59)<pw (t+1)*pw (-59):=Rat.mul_lt_mul_of_pos_right a2 (pw_pos _)
 rw[←pw_add,show t+1+ -59=t-58 by omega]at h5
 have h6:=pw_lt (show t-58<t-57 by omega)
 grind
theorem dy_more (m:Nat) (e:Int) (N:Nat) (h: -e≤(N:Int)):((m*2^(e+N).toNat+1:Nat):Rat)*pw (-(N:Int))=(m:Rat)*pw e+pw (-(N:Int)):=by
 have h1:((2^(e+N).toNat:Nat):Rat)*pw (-(N:Int))=pw e:=by
  rw[←pw_nat,←pw_add];congr 1;omega
 rw[Rat.natCast_add,Rat.natCast_mul,Rat.add_mul,Rat.mul_assoc,h1]
 congr 1
 exact Rat.one_mul _
theorem dy_less (m:Nat) (e:Int) (N:Nat) (h0:m≠0) (h: -e≤(N:Int)):((m*2^(e+N).toNat-1:Nat):Rat)*pw (-(N:Int))=(m:Rat)*pw e-pw (-(N:Int)):=by
 have h1:((2^(e+N).toNat:Nat):Rat)*pw (-(N:Int))=pw e:=by
  rw[←pw_nat,←pw_add];congr 1;omega
 have h2:1≤m*2^(e+N).toNat:=Nat.mul_pos (Nat.pos_of_ne_zero h0) (Nat.two_pow_pos _)
 have h3:((m*2^(e+N).toNat-1:Nat):Rat)+1=(m:Rat)*((2^(e+N).toNat:Nat):Rat):=by
  rw[←Rat.natCast_mul,show m*2^(e+N).toNat=m*2^(e+N).toNat-1+1 by omega,Rat.natCast_add];rfl
 have h4:((m*2^(e+N).toNat-1:Nat):Rat)=(m:Rat)*((2^(e+N).toNat:Nat):Rat)-1:=by grind
 rw[h4]
 grind
theorem p59:((2^59+1:Nat):Rat)*pw (-59)=1+pw (-59)∧((2^59-1:Nat):Rat)*pw (-59)=1-pw (-59):=⟨above_m 59,below_m 59⟩
theorem small_pos {v:Rat}(h0:0<v) (h1:v<pw (-60)):XL v 1 (1+v*(1+pw (-59)))∧XL (-v) (1+(v+v*v*(1/2))) 1:=by
 obtain⟨t1,t2,t3,t4,t5⟩:=tiny_175
 have h59:pw (-59)=pw (-60)*2:=by rw[←pw_one,←pw_add];rfl
 constructor
 ·have a:=XL.pos_lin (q:=v) (Rat.le_of_lt h0) (by grind)
  have hp1:0<1-v:=by grind
  obtain⟨i1,i2⟩:=rq_inv_pos hp1
  have a2:=a.scale i1
  rw[Rat.mul_comm (1-v),i2,Rat.one_mul]at a2
  refine a2.up ?_
  have h3:1≤(1+v*(1+pw (-59)))*(1-v):=by
   rw[h59]
   generalize pw (-60)=z at*
   have b1:=Rat.mul_nonneg (Rat.le_of_lt h0) (show 0≤z-v by grind)
   have b2:=Rat.mul_nonneg (Rat.le_of_lt h0) (Rat.mul_nonneg (show 0≤z by grind) (show 0≤1-2*v by grind))
   grind
  have h4:=Rat.mul_le_mul_of_nonneg_right h3 (Rat.le_of_lt i1)
  rw[Rat.one_mul,Rat.mul_assoc,Rat.mul_comm (1-v),i2,Rat.mul_one]at h4
  exact h4
 ·have hpos:0<1+(v+v*v*(1/2)):=by
   have:=Rat.mul_pos h0 h0
   grind
  refine XL.neg_series (K:=3) (Rat.le_of_lt h0) hpos ?_ (by decide)
  have e:exA v 3=1+(v+v*v*(1/2)):=by
   have i1:(((0+1:Nat):Rat))⁻¹=1:=by decide+kernel
   have i2:(((1+1:Nat):Rat))⁻¹=1/2:=by decide+kernel
   have x0:exA v 0=0:=rfl
   have x1:exT v 0=1:=rfl
   have x2:exT v 1=v:=by rw[exT_succ,x1,i1];grind
   have x3:exT v 2=v*v*(1/2):=by rw[exT_succ,x2,i2]
   rw[exA_succ,exA_succ,exA_succ,x0,x1,x2,x3]
   grind
  rw[e]
  grind
theorem small_neg {s:Rat}(h0:0<s) (h1:s<pw (-60)):XL (-s) 1 (1-s*(1-pw (-59)))∧XL s (1-(s-s*s*(1/4))) 1:=by
 obtain⟨t1,t2,t3,t4,t5⟩:=tiny_175
 have h59:pw (-59)=pw (-60)*2:=by rw[←pw_one,←pw_add];rfl
 constructor
 ·have a:=XL.neg_lin (q:=s) (Rat.le_of_lt h0)
  have hp1:0<1+s:=by grind
  obtain⟨i1,i2⟩:=rq_inv_pos hp1
  have a2:=a.scale i1
  rw[Rat.mul_comm (1+s),i2,Rat.one_mul]at a2
  refine a2.up ?_
  have h3:1≤(1-s*(1-pw (-59)))*(1+s):=by
   rw[h59]
   generalize pw (-60)=z at*
   have b1:=Rat.mul_nonneg (Rat.le_of_lt h0) (show 0≤z-s by grind)
   have b2:=Rat.mul_nonneg (Rat.le_of_lt h0) (Rat.mul_nonneg (show 0≤z by grind) (show 0≤1+2*s by grind))
   grind
  have h4:=Rat.mul_le_mul_of_nonneg_right h3 (Rat.le_of_lt i1)
  rw[Rat.one_mul,Rat.mul_assoc,Rat.mul_comm (1+s),i2,Rat.mul_one]at h4
  exact h4
 ·have a:=XL.pos_lin (q:=s*(1/2)) (Rat.le_of_lt (Rat.mul_pos h0 (by decide+kernel))) (by grind)
  have b:=a.mul a
  rw[Rat.mul_one,show s*(1/2)+s*(1/2)=s by grind,show(1-s*(1/2))*(1-s*(1/2))=1-(s-s*s*(1/4))by grind]at b
  exact b
theorem tiny_rg {x b:Nat}{dir f:Int}(hf:fldN x<2047) (h0:(dyB x).m≠0) (ht:topD (dyB x)< -60) (h:BesR x dir b f):RgP (HoldX (negN x) (qv (dyB x))) (negN x) dir b f:=by
 obtain⟨n,m,e,hb,hm,hv,hto⟩:=h
 obtain⟨hn,hval,hu,he⟩:=flt_grid hf h0
 have hfl:f≠0:=by
  have:=toB_more n m e dir
  rw[hto]at this
  dsimp only at this
  omega
 obtain⟨a1,a2⟩:=top_in (n:=(dyB x).neg) (E:=(dyB x).e) h0
 rw[hval]at a1 a2
 have e0:topD ⟨(dyB x).neg,(dyB x).m,(dyB x).e⟩=topD (dyB x):=rfl
 rw[e0]at a1 a2
 have hs1:(mntN x:Rat)*pw (expN x)<pw (-60):=by
  have:=pw_mono (show topD (dyB x)+1≤-60 by omega)
  grind
 have hs0:0<(mntN x:Rat)*pw (expN x):=by have:=pw_pos (topD (dyB x));grind
 have h59:=pw_pos (-59)
 have h59b:pw (-59)<1:=by have:=pw_lt (show(-59:Int)<0 by decide);rw[pw_zero]at this;exact this
 have hMx:mntN x≠0:=fun h=>by
  rw[h,show((0:Nat):Rat)=0 from rfl,Rat.zero_mul]at hs0
  exact Rat.lt_irrefl hs0
 have habove:∀P F,P%2=1→isBrk P F=true→(mntN x:Rat)*pw (expN x)<(P:Rat)*pw F→(P:Rat)*pw F≤(mntN x:Rat)*pw (expN x)*(1+pw (-59))→False:=fun P F hP hk g1 g2=>gap_above hf h0 (by omega) hk (by omega) g1 g2
 have hbelow:∀P F,P%2=1→isBrk P F=true→(mntN x:Rat)*pw (expN x)*(1-pw (-59))≤(P:Rat)*pw F→(P:Rat)*pw F<(mntN x:Rat)*pw (expN x)→False:=fun P F hP hk g1 g2=>gap_below hf h0 (by omega) hk (by omega) g2 g1
 have hqv:qv (dyB x)=if negN x=true then-((mntN x:Rat)*pw (expN x))else(mntN x:Rat)*pw (expN x):=by
  unfold qv
  rw[hn,hval]
 have hmn:=mntN_lt x
 cases hng:negN x
 ·
  rw[hng,if_neg (by decide)]at hqv
  rw[hng,if_neg (by decide),hqv]at hv
  rw[hqv]
  obtain⟨k1,k2⟩:=small_pos hs0 hs1
  have hn0:n=false:=(qv_above (d:=⟨n,m,e⟩) (by rw[hv];exact hs0)).1
  subst hn0
  rw[qv_pos]at hv
  obtain⟨N,hN1,hN2⟩:=pw_little (show 0<(mntN x:Rat)*pw (expN x)*((mntN x:Rat)*pw (expN x))*(1/2)from Rat.mul_pos (Rat.mul_pos hs0 hs0) (by decide+kernel)) (-(expN x)).toNat
  have d1:=dy_more (mntN x) (expN x) N (by omega)
  have d2:((mntN x*(2^59+1):Nat):Rat)*pw (expN x+ -59)=(mntN x:Rat)*pw (expN x)*(1+pw (-59)):=by
   rw[←p59.1,Rat.natCast_mul,pw_add];grind
  have hpN:=pw_pos (-(N:Int))
  have hs2:(mntN x:Rat)*pw (expN x)*((mntN x:Rat)*pw (expN x))*(1/2)≤(mntN x:Rat)*pw (expN x)*pw (-59):=by
   have h59c:pw (-59)=pw (-60)*2:=by rw[←pw_one,←pw_add];rfl
   have:=Rat.mul_le_mul_of_nonneg_left (show(mntN x:Rat)*pw (expN x)*(1/2)≤pw (-59)by grind) (Rat.le_of_lt hs0)
   grind
  have t1:=toB_beyond (neg:=false) (M:=m) (E:=e) (M':=mntN x*2^(expN x+N).toNat+1) (E':= -(N:Int)) (dir:=dir) hm (by rw[hv,d1];grind) (fun P F p1 p2 p3 p4=>habove P F p1 p2 (by rw[←hv];exact p3) (by rw[d1]at p4;grind))
  have t2:=toB_beyond (neg:=false) (M:=m) (E:=e) (M':=mntN x*(2^59+1)) (E':=expN x+ -59) (dir:=dir) hm (by rw[hv,d2];have:=Rat.mul_pos hs0 h59;grind) (fun P F p1 p2 p3 p4=>habove P F p1 p2 (by rw[←hv];exact p3) (by rw[←d2];exact p4))
  rw[hto]at t1 t2
  refine⟨_,_,_,_,⟨Nat.succ_ne_zero _,t1.symm,hfl⟩,⟨Nat.mul_ne_zero hMx (by decide),t2.symm,hfl⟩,?_⟩
  unfold HoldX
  rw[if_neg (by decide),d1,d2]
  exact⟨k2.down (by grind) (by grind),k1⟩
 ·
  rw[hng,if_pos rfl]at hqv
  rw[hng,if_pos rfl,hqv]at hv
  rw[hqv]
  obtain⟨k1,k2⟩:=small_neg hs0 hs1
  obtain⟨t1',t2',t3',t4',t5'⟩:=tiny_175
  have h1200:=pw_pos (-1200)
  have h1074:pw (-1074)≤(mntN x:Rat)*pw (expN x):=by
   have h3:=pw_mono he
   have h4:=Rat.mul_le_mul_of_nonneg_right (rq_le (show 1≤mntN x by omega)) (Rat.le_of_lt (pw_pos (expN x)))
   have e1:((1:Nat):Rat)*pw (expN x)=pw (expN x):=Rat.one_mul _
   rw[e1]at h4
   exact Rat.le_trans h3 h4
  have h1133:pw (-1133)≤(mntN x:Rat)*pw (expN x)*pw (-59):=by
   have:=Rat.mul_le_mul_of_nonneg_right h1074 (Rat.le_of_lt h59)
   rw[←pw_add]at this
   exact this
  have h12:=pw_lt (show(-1200:Int)< -1133 by decide)
  have h12b:=pw_lt (show(-1200:Int)< -1074 by decide)
  have hn0:n=true:=by
   cases n
   ·exfalso
    rw[qv_pos]at hv
    have:0≤(m:Rat)*pw e:=Rat.mul_nonneg (rq_nat_nonneg m) (Rat.le_of_lt (pw_pos e))
    grind
   ·rfl
  subst hn0
  rw[qv_neg]at hv
  have hv':(m:Rat)*pw e=(mntN x:Rat)*pw (expN x)-pw (-1200):=by grind
  obtain⟨N,hN1,hN2⟩:=pw_little (show 0<(mntN x:Rat)*pw (expN x)*((mntN x:Rat)*pw (expN x))*(1/4)from Rat.mul_pos (Rat.mul_pos hs0 hs0) (by decide+kernel)) (max (-(expN x)).toNat 1201)
  have d1:=dy_less (mntN x) (expN x) N hMx (by omega)
  have d2:((mntN x*(2^59-1):Nat):Rat)*pw (expN x+ -59)=(mntN x:Rat)*pw (expN x)*(1-pw (-59)):=by
   rw[←p59.2,Rat.natCast_mul,pw_add];grind
  have hpN:=pw_pos (-(N:Int))
  have hNl:=pw_lt (show(-(N:Int))< -1200 by omega)
  have hM1:mntN x*2^(expN x+N).toNat-1≠0:=fun h=>by
   rw[h,show((0:Nat):Rat)=0 from rfl,Rat.zero_mul]at d1
   grind
  have t1:=toB_beyond (neg:=true) (M:=m) (E:=e) (M':=mntN x*2^(expN x+N).toNat-1) (E':= -(N:Int)) (dir:=dir) hm (by rw[hv',d1];grind) (fun P F p1 p2 p3 p4=>hbelow P F p1 p2 (by rw[hv']at p3;grind) (by rw[d1]at p4;grind))
  have hM2:mntN x*(2^59-1)≠0:=Nat.mul_ne_zero hMx (by decide)
  have t2:=toB_same (neg:=true) (M:=mntN x*(2^59-1)) (E:=expN x+ -59) (M':=mntN x*2^(expN x+N).toNat-1) (E':= -(N:Int)) (dir:=dir) hM2 hM1 (by rw[d1,d2];grind) (fun P F p1 p2 p3 p4=>hbelow P F p1 p2 (by rw[d2]at p3;exact p3) (by rw[d1]at p4;grind))
  rw[hto]at t1
  refine⟨_,_,_,_,⟨hM2,t2.trans t1.symm,hfl⟩,⟨hM1,t1.symm,hfl⟩,?_⟩
  unfold HoldX
  rw[if_pos rfl,d1,d2]
  refine⟨k1,.inr ?_⟩
  rw[show- -((mntN x:Rat)*pw (expN x))=(mntN x:Rat)*pw (expN x)by grind]
  refine k2.down ?_ ?_
  ·clear t1 t2 k1 k2 habove hbelow;grind
  ·clear t1 t2 k1 k2 habove hbelow;grind
theorem ex1_rg {x fr pt b:Nat}{dir f tr:Int}(h:Ex1Res x fr pt dir b f 0 tr) (d0:0≤dir) (d3:dir≤3) (hf:fldN x<2047) (h0:(dyB x).m≠0):RgP (HoldX (negN x) (qv (dyB x))) (negN x) dir b f:=by
 have g:¬(dir<0∨3<dir):=by omega
 obtain⟨hn,hval,hu,he⟩:=flt_grid hf h0
 have hsz:0<(mntN x:Rat)*pw (expN x):=by rw[←hval];exact Rat.mul_pos (rq_nat_pos (Nat.pos_of_ne_zero h0)) (pw_pos _)
 have hqv:qv (dyB x)=if negN x=true then-((mntN x:Rat)*pw (expN x))else(mntN x:Rat)*pw (expN x):=by
  unfold qv
  rw[hn,hval]
 rcases h with⟨ht,hb,-,-⟩|⟨-,hv,hr,-,-⟩|⟨-,hv,hr,-,-⟩|⟨-,v1,v2,l,hl,hr⟩
 ·exact tiny_rg hf h0 ht hb
 ·have hng:negN x=false:=by
   cases h:negN x
   ·rfl
   ·rw[h,if_pos rfl]at hqv
    exfalso;grind
  rw[hng]
  unfold resB at hr
  rw[if_neg g,if_pos rfl]at hr
  injection hr with e1 e2;injection e2 with e2 e3
  obtain⟨N,hN⟩:=exp_below (qv (dyB x))
  have hp:=pw_pos 1024
  have k1:=pw_exp (n:=1024) (q:=qv (dyB x)) (by have:((1024:Nat):Rat)=1024:=rfl
                                                rw[this];grind)
  rw[show((1024:Nat):Int)=1024 from rfl]at k1
  have h10:10≤pw 1024:=by
   have:=pw_mono (show(4:Int)≤1024 by decide)
   have e4:pw 4=16:=by have:=pw_nat 4;rw[show((4:Nat):Int)=4 from rfl]at this;rw[this];decide+kernel
   grind
  have k2:XL (-(qv (dyB x))) (1+pw 1024) 1:=k1.down (by grind) (by grind)
  have k3:1+pw 1024≤pw ((N:Nat):Int):=exp_le k2 hN
  refine⟨1,1024,1,(N:Int),⟨by decide,?_,by rw[←e2];decide⟩,⟨by decide,?_,by rw[←e2];decide⟩,?_⟩
  ·rw[round_over (by rw[one_m];exact Rat.le_refl),e1,e2]
  ·rw[round_over (by rw[one_m];grind),e1,e2]
  ·unfold HoldX
   rw[if_neg (by decide),one_m,one_m]
   exact⟨k2,hN.up (by grind)⟩
 ·have hng:negN x=true:=by
   cases h:negN x
   ·rw[h,if_neg (by decide)]at hqv
    exfalso;grind
   ·rfl
  rw[hng]
  unfold resB at hr
  rw[if_neg g,if_neg (by decide),if_neg (by decide),if_neg (by decide),if_pos rfl]at hr
  injection hr with e1 e2;injection e2 with e2 e3
  obtain⟨N',hN'⟩:=exp_above (qv (dyB x))
  obtain⟨N,hN1,hN2⟩:=pw_little (pw_pos (-(N':Int))) 55
  have hpN:=pw_pos (-(N:Int))
  have b60:=below_m 60
  rw[show((60:Nat):Int)=60 from rfl]at b60
  have hp60:=pw_pos 60
  have k1:=pw_exp (n:=60) (q:= -(qv (dyB x))) (by have:((60:Nat):Rat)=60:=rfl
                                                  rw[this];grind)
  rw[show((60:Nat):Int)=60 from rfl,show- -(qv (dyB x))=qv (dyB x)by grind]at k1
  have hu60:pw 60*pw (-60)=1:=by have:=pw_neg 60;grind
  have k2:XL (qv (dyB x)) 1 (pw (-60)):=by
   have a:=(k1.down hp60 (by grind)).scale (pw_pos (-60))
   rw[hu60,Rat.one_mul]at a
   exact a
  have k3:XL (-(qv (dyB x))) (1-(1-pw (-(N:Int)))) 1:=by
   rw[show(1:Rat)-(1-pw (-(N:Int)))=pw (-(N:Int))by grind]
   exact hN'.down hpN hN2
  have h55:pw (-(N:Int))<pw (-54):=pw_lt (by omega)
  have h54:pw (-60)<pw (-54):=pw_lt (by decide)
  have h2N:2^1≤2^N:=Nat.pow_le_pow_right (by decide) (by omega)
  refine⟨2^60-1,-60,2^N-1,-(N:Int),⟨by decide,?_,by rw[←e2];decide⟩,⟨by omega,?_,by rw[←e2];decide⟩,?_⟩
  ·rw[round_below (by rw[b60];grind) (by rw[b60];have:=pw_pos (-60);grind),e1,e2]
  ·rw[round_below (by rw[below_m];grind) (by rw[below_m];grind),e1,e2]
  ·unfold HoldX
   rw[if_pos rfl,b60,below_m]
   refine⟨?_,.inr k3⟩
   rw[show(1:Rat)-(1-pw (-60))=pw (-60)by grind]
   exact k2
 ·obtain⟨n,lo,hi,⟨l',h',k,⟨L,H,-,-,-,o⟩,e1,e2⟩,⟨n1,n2⟩,o1,o2⟩:=run_rg hr
  rw[qv_size n1]at e1
  rw[qv_size n2]at e2
  refine⟨_,_,_,_,o1,o2,?_⟩
  have x1:=o.x1
  have x2:=o.x2
  have em:((-1:Int):Rat)= -1:=rfl
  rw[em]at e1 e2
  have hlo:0<(lo.m:Rat)*pw lo.e:=Rat.mul_pos (rq_nat_pos (Nat.pos_of_ne_zero o1.ne)) (pw_pos _)
  have hl0:0<qv l':=by have:=o.low;have:=pw_pos k;grind
  unfold HoldX
  generalize negN x=ng at*
  cases ng
  ·rw[if_neg (by decide)]at e1 e2⊢
   rw[e1,e2]
   exact⟨by rw[show 1+(qv l'+ -1)=qv l' by grind];exact x1,by rw[show 1+(qv h'+ -1)=qv h' by grind];exact x2⟩
  ·rw[if_pos rfl]at e1 e2⊢
   rw[e1,e2]
   refine⟨by rw[show 1- -(qv h'+ -1)=qv h' by grind];exact x2,.inr ?_⟩
   rw[show 1- -(qv l'+ -1)=qv l' by grind]
   exact x1
def ordN (b:Nat):Int:=if 9223372036854775808≤b then-((b-9223372036854775808:Nat):Int)else(b:Int)
theorem szB_le {n:Bool}{M:Nat}{E dir:Int}(h0:M≠0):szB n M E dir≤9218868437227405312:=by
 unfold szB
 split
 ·split<;>decide
 ·split
  ·split<;>decide
  ·exact size_inf h0 (by omega)
theorem ord_signed {s:Nat}{n:Bool}(h:s≤9218868437227405312):ordN (signedB s n)=if n=true then-(s:Int)else(s:Int):=by
 unfold ordN signedB
 cases n
 ·simp only[Bool.false_eq_true,if_false]
  rw[if_neg (by omega)]
 ·simp only[if_true]
  rw[if_pos (by omega)]
  omega
theorem rg_order {n:Bool}{dir f f':Int}{b b' M1 M2 M3 M4:Nat}{E1 E2 E3 E4:Int}(o1:End n M1 E1 dir b f) (o2:End n M2 E2 dir b f) (o3:End n M3 E3 dir b' f') (o4:End n M4 E4 dir b' f'):
 ((M1:Rat)*pw E1≤(M4:Rat)*pw E4→n=false→ordN b≤ordN b')∧((M3:Rat)*pw E3≤(M2:Rat)*pw E2→n=true→ordN b≤ordN b'):=by
 constructor
 ·intro h hn
  subst hn
  have m:=sz_mono (n:=false) (dir:=dir) o1.ne o4.ne h
  rw[o1.sz,o4.sz,ord_signed (szB_le o1.ne),ord_signed (szB_le o4.ne),if_neg (by decide),if_neg (by decide)]
  omega
 ·intro h hn
  subst hn
  have m:=sz_mono (n:=true) (dir:=dir) o3.ne o2.ne h
  rw[o2.sz,o3.sz,ord_signed (szB_le o2.ne),ord_signed (szB_le o3.ne),if_pos rfl,if_pos rfl]
  omega
theorem end_ord {n:Bool}{dir f:Int}{b M:Nat}{E:Int}(o:End n M E dir b f):(n=false→0≤ordN b∧ordN b≤9218868437227405312)∧(n=true→ordN b≤0∧-9218868437227405312≤ordN b):=by
 have h:=szB_le (n:=n) (E:=E) (dir:=dir) o.ne
 rw[o.sz,ord_signed h]
 constructor
 ·intro hn;subst hn;rw[if_neg (by decide)];omega
 ·intro hn;subst hn;rw[if_pos rfl];omega
theorem szB_one (n:Bool) {dir:Int}(d0:0≤dir) (d3:dir≤3):szB n 1 0 dir=4607182418800017408:=by
 rcases dir_cases d0 d3 with rfl|rfl|rfl|rfl<;>cases n<;>decide+kernel
end Go.Proofs.YtffaefjkpipjnaaGreatDoor
