/- exp of 1 is decided at the first try: plainly. Conditions: none. -/
import Derived.Test.YtffaefjkpipjnaaGreatDoorPkC24
import Derived.Test.YtffaefjkpipjnaaGreatDoorPkC30
import Derived.Test.YtffaefjkpipjnaaGreatDoorPkC31
import Derived.Test.YtffaefjkpipjnaaGreatDoorPkC01
import Derived.Test.YtffaefjkpipjnaaGreatDoorPkC18
import Derived.Test.YtffaefjkpipjnaaGreatDoorPkC16
namespace Go.Proofs.YtffaefjkpipjnaaGreatDoor
set_option linter.unusedVariables false
set_option linter.unusedSimpArgs false
set_option maxRecDepth 100000
open Go.RowKit
theorem brk_grid {P:Nat}{F t:Int}(h:isBrk P F=true) (ht:topD ⟨false,P,F⟩=t) (t3:t≤1023):∃N:Nat,(P:Rat)*pw F=(N:Rat)*pw (unitB t-1):=by
 unfold isBrk at h
 rw[ht,if_neg (by omega)]at h
 have h1:=of_decide_eq_true h
 have hu:unitB t=max (t-52) (-1074):=rfl
 refine⟨P*2^(F-(unitB t-1)).toNat,?_⟩
 rw[Rat.natCast_mul,←pw_nat,Rat.mul_assoc,←pw_add]
 congr 2
 omega
theorem e_hi:XL 1 1 (3133965575612453543*pw (-60)):=by
 have hp:pw (-60)=1/1152921504606846976:=by
  have:=pw_neg 60
  have h2:=pw_nat 60
  rw[show((60:Nat):Int)=60 from rfl]at h2
  rw[h2]at this
  have e:((2^60:Nat):Rat)=1152921504606846976:=by decide+kernel
  rw[e]at this
  grind
 rw[hp]
 refine XL.of_series (by decide) (by decide) (fun K=>?_)
 have h1:=exA_bound (x:=1) (by decide) (by decide) (k:=22) (by decide) K
 have h2:exA 1 (22+1)+exT 1 22≤3133965575612453543*(1/1152921504606846976):=by decide+kernel
 grind
theorem e_lo:XL (-1) (3133965575612453542*pw (-60)) 1:=by
 have hp:pw (-60)=1/1152921504606846976:=by
  have:=pw_neg 60
  have h2:=pw_nat 60
  rw[show((60:Nat):Int)=60 from rfl]at h2
  rw[h2]at this
  have e:((2^60:Nat):Rat)=1152921504606846976:=by decide+kernel
  rw[e]at this
  grind
 rw[hp]
 refine XL.neg_series (K:=23) (by decide) (by decide+kernel) ?_ (by decide)
 decide+kernel
theorem cls_one:clsN ⟨false,1,0⟩=0:=by decide+kernel
theorem qv_one:qv ⟨false,1,0⟩=1:=by rw[qv_pos,pw_zero];exact Rat.mul_one _
theorem pw_pieces:pw (-60)=pw (-102)*4398046511104∧pw (-52)=pw (-60)*256:=by
 constructor
 ·rw[show(-60:Int)= -102+((42:Nat):Int)by decide,pw_add,pw_nat]
  congr 1
 ·rw[show(-52:Int)= -60+((8:Nat):Int)by decide,pw_add,pw_nat]
  congr 1
theorem one_ends {lo hi:Dn}{s:Nat}{k:Int}(h:ExpT ⟨false,1,0⟩ lo hi s k) (s1:128≤s) (s2:s≤8000):
 0<qv lo∧qv lo≤qv hi∧qv lo≤3133965575612453543*pw (-60)∧3133965575612453542*pw (-60)≤qv hi:=by
 obtain⟨L,H,-,-,-,o⟩:=h
 have x1:=o.x1
 have x2:=o.x2
 rw[qv_one]at x1 x2
 have a1:=exp_le x1 e_hi
 have a2:=exp_le e_lo x2
 have hp:=pw_pos k
 exact⟨by have:=o.low;grind,o.le,a1,a2⟩
theorem one_thin {lo hi:Dn}{k:Int}(h:ExpT ⟨false,1,0⟩ lo hi 128 k):qv hi-qv lo≤pw (-102):=by
 have b:=one_ends h (by decide) (by decide)
 obtain⟨L,H,-,-,-,o⟩:=h
 have hk:=(o.mid2 (by rw[qv_one];decide) (by rw[qv_one];decide) (by decide)).1
 have hlow:=o.low
 have hk2:k≤1:=by
  rcases Int.lt_or_le 1 k with h|h
  ·exfalso
   have h1:=pw_mono (show 2≤k by omega)
   have e2:pw 2=4:=by
    have:=pw_nat 2
    rw[show((2:Nat):Int)=2 from rfl]at this
    rw[this];decide+kernel
   have e60:(3133965575612453543:Rat)*pw (-60)<4:=by
    have:=pw_neg 60
    have h2:=pw_nat 60
    rw[show((60:Nat):Int)=60 from rfl]at h2
    rw[h2]at this
    have e:((2^60:Nat):Rat)=1152921504606846976:=by decide+kernel
    rw[e]at this
    grind
   grind
  ·exact h
 have ht:=o.thin
 have hm:8*128+131+3*k.natAbs*(2*128+128)≤33554432:=by omega
 have h1:=rq_le hm
 have h2:=pw_mono (show-(((128:Nat):Int)-k)≤-127 by omega)
 have hp:=pw_pos (-(((128:Nat):Int)-k))
 have h3:=Rat.mul_le_mul_of_nonneg_right h1 (Rat.le_of_lt hp)
 have h4:=Rat.mul_le_mul_of_nonneg_left h2 (show(0:Rat)≤((33554432:Nat):Rat)by decide)
 have h5:((33554432:Nat):Rat)*pw (-127)=pw (-102):=by
  rw[show(-102:Int)=((25:Nat):Int)+ -127 by decide,pw_add,pw_nat]
 rw[h5]at h4
 exact Rat.le_trans ht (Rat.le_trans h3 h4)
theorem one_found {lo hi:Dn}{k:Int}(h:ExpT ⟨false,1,0⟩ lo hi 128 k):∃b f,decG false lo hi 0=(true,b,f):=by
 obtain⟨b1,b2,b3,b4⟩:=one_ends h (by decide) (by decide)
 have ht:=one_thin h
 have hb:=h.bare
 obtain⟨p1,p2⟩:=pw_pieces
 have hp:=pw_pos (-102)
 have hp60:=pw_pos (-60)
 refine dec_found (hr_of b1 b2) hb.q1 hb.q2 (fun P F h1 h2 h3 h4=>?_)
 have g1:3133965575612453541*pw (-60)≤(P:Rat)*pw F:=by grind
 have g2:(P:Rat)*pw F≤3133965575612453544*pw (-60):=by grind
 have q60:pw (-60)*1152921504606846976=1:=by
  have:=pw_neg 60
  have h2:=pw_nat 60
  rw[show((60:Nat):Int)=60 from rfl]at h2
  rw[h2]at this
  have e:((2^60:Nat):Rat)=1152921504606846976:=by decide+kernel
  rw[e]at this
  exact this
 have e2:pw 2=4:=by
  have:=pw_nat 2
  rw[show((2:Nat):Int)=2 from rfl]at this
  rw[this];decide+kernel
 have htop:topD ⟨false,P,F⟩=1:=top_val (by rw[pw_one];grind) (by rw[show(1:Int)+1=2 by decide,e2];grind)
 obtain⟨N,hN⟩:=brk_grid h2 htop (by decide)
 have hu:unitB 1-1= -52:=by decide
 rw[hu,p2]at hN
 have c1:(3133965575612453541:Rat)≤(N:Rat)*256:=by
  rw[hN]at g1
  have:3133965575612453541*pw (-60)≤((N:Rat)*256)*pw (-60):=by grind
  exact Rat.le_of_mul_le_mul_right this hp60
 have c2:(N:Rat)*256≤3133965575612453544:=by
  rw[hN]at g2
  have:((N:Rat)*256)*pw (-60)≤3133965575612453544*pw (-60):=by grind
  exact Rat.le_of_mul_le_mul_right this hp60
 have d1:3133965575612453541≤N*256:=by
  refine rq_unle ?_
  rw[Rat.natCast_mul]
  exact c1
 have d2:N*256≤3133965575612453544:=by
  refine rq_unle ?_
  rw[Rat.natCast_mul]
  exact c2
 omega
theorem one_round {lo hi:Dn}{s b:Nat}{k f:Int}(h:ExpT ⟨false,1,0⟩ lo hi s k) (s1:128≤s) (s2:s≤8000) (hd:decG false lo hi 0=(true,b,f)):b=4613303445314885481∧f=1:=by
 obtain⟨b1,b2,b3,b4⟩:=one_ends h s1 s2
 obtain⟨-,⟨n1,n2⟩,i1,i2,z1,z2,t1,t2⟩:=dec_ends hd
 obtain⟨nl,M1,F1⟩:=lo
 obtain⟨nh,M2,F2⟩:=hi
 dsimp only at n1 n2 z1 z2 t1 t2 i1 i2
 subst n1 n2
 rw[qv_pos]at b3 b4
 have o3:End false 3133965575612453542 (-60) 0 4613303445314885481 1:=⟨by decide,by decide+kernel,by decide⟩
 have o4:End false 3133965575612453543 (-60) 0 4613303445314885481 1:=⟨by decide,by decide+kernel,by decide⟩
 have hf:f≠0:=toB_inexact (bareD_oddM h.bare.q1 z1) i1 t1
 exact end_uniq ⟨z1,t1,hf⟩ ⟨z2,t2,hf⟩ o3 o4 b3 b4
theorem exp_alive {b:Nat}{f st tr:Int}(h:ExpRes ⟨false,1,0⟩ 64 1024 0 b f st tr):b=4613303445314885481∧f=1∧st=0:=by
 rcases h with⟨h,-⟩|⟨-,l,hl,hr⟩
 ·exact absurd cls_one h
 have hl':PlanR 64 1024 [64,128,256,512,1024]:=⟨4,by decide,by decide,by decide,by decide⟩
 obtain rfl:=hl.uniq hl'
 rcases hr with⟨rfl,i,n,lo,hi,h9,hn,-,-,⟨k,ho⟩,-,hd⟩|⟨-,-,hF,-⟩
 ·have hn1:64≤n∧n≤1024:=by
   have:=List.mem_of_getElem? hn
   simp at this
   omega
  obtain⟨e1,e2⟩:=one_round ho (by omega) (by omega) hd
  exact⟨e1,e2,rfl⟩
 ·exfalso
  obtain⟨n,b',f',lo,hi,hn,⟨k,ho⟩,-,hd⟩:=hF 0 (by decide)
  injection hn with hn
  subst hn
  obtain⟨b2,f2,hd2⟩:=one_found ho
  rw[hd]at hd2
  cases hd2
open Go.RowKit Go.ChangeShapes Go.WideShapes
theorem rkind_n {w:World}{b:Nat}(hb:b<18446744073709551616):Calls Tryz.prog 7 #[L64 b] w (fun e w'=>e= .returned (.int .i64 (kindN b:Int))∧w'=w):=by
 obtain⟨r,hr⟩:∃r,kindN b=r:=⟨_,rfl⟩
 rw[hr]
 unfold kindN fldN frcN at hr
 obtain⟨q,hq⟩:∃q,b/4503599627370496=q:=⟨_,rfl⟩
 have hq2:(b:Int)/4503599627370496=(q:Int):=by omega
 have hwq:IntKind.u64.wrap (q:Int)=(q:Int):=by rw[IntKind.wrap_u64];omega
 obtain⟨f,hf⟩:∃f,q%2048=f:=⟨_,rfl⟩
 have hf2:(q:Int)%2048=(f:Int):=by omega
 obtain⟨g,hg⟩:∃g,b%4503599627370496=g:=⟨_,rfl⟩
 have hg2:(b:Int)%4503599627370496=(g:Int):=by omega
 rw[hq,hf,hg]at hr
 clear hb
 by_cases c1:f=0
 ·have d1t0:((f:Int)==0)=true:=beq_iff_eq.2 (by omega)
  have d1t1:(f==0)=true:=beq_iff_eq.2 (by omega)
  by_cases c2:g=0
  ·have d2t0:((g:Int)==0)=true:=beq_iff_eq.2 (by omega)
   have d2t1:(g==0)=true:=beq_iff_eq.2 (by omega)
   obtain rfl:0=r:=by rw[←hr,if_pos c1,if_pos c2]
   clear c1 c2 hr
   go_enter Tryz.func7,Tryz.ntmps7
   go_wp2
   go_ret
   exact⟨rfl,rfl⟩
  ·have d2f0:((g:Int)==0)=false:=beq_false_of_ne (by omega)
   have d2f1:(g==0)=false:=beq_false_of_ne (by omega)
   obtain rfl:1=r:=by rw[←hr,if_pos c1,if_neg c2]
   clear c1 c2 hr
   go_enter Tryz.func7,Tryz.ntmps7
   go_wp2
   go_ret
   exact⟨rfl,rfl⟩
 ·have d1f0:((f:Int)==0)=false:=beq_false_of_ne (by omega)
  have d1f1:(f==0)=false:=beq_false_of_ne (by omega)
  by_cases c3:f<2047
  ·have d3t0:decide ((f:Int)<2047)=true:=decide_eq_true (by omega)
   have d3t1:decide (f<2047)=true:=decide_eq_true (by omega)
   obtain rfl:2=r:=by rw[←hr,if_neg c1,if_pos c3]
   clear c1 c3 hr
   go_enter Tryz.func7,Tryz.ntmps7
   go_wp2
   go_ret
   exact⟨rfl,rfl⟩
  ·have d3f0:decide ((f:Int)<2047)=false:=decide_eq_false (by omega)
   have d3f1:decide (f<2047)=false:=decide_eq_false (by omega)
   by_cases c4:g=0
   ·have d4t0:((g:Int)==0)=true:=beq_iff_eq.2 (by omega)
    have d4t1:(g==0)=true:=beq_iff_eq.2 (by omega)
    obtain rfl:3=r:=by rw[←hr,if_neg c1,if_neg c3,if_pos c4]
    clear c1 c3 c4 hr
    go_enter Tryz.func7,Tryz.ntmps7
    go_wp2
    go_ret
    exact⟨rfl,rfl⟩
   ·have d4f0:((g:Int)==0)=false:=beq_false_of_ne (by omega)
    have d4f1:(g==0)=false:=beq_false_of_ne (by omega)
    by_cases c5:2251799813685248≤g
    ·have d5t0:decide ((2251799813685248:Int)≤g)=true:=decide_eq_true (by omega)
     have d5t1:decide (2251799813685248≤g)=true:=decide_eq_true (by omega)
     obtain rfl:4=r:=by rw[←hr,if_neg c1,if_neg c3,if_neg c4,if_pos c5]
     clear c1 c3 c4 c5 hr
     go_enter Tryz.func7,Tryz.ntmps7
     go_wp2
     go_ret
     exact⟨rfl,rfl⟩
    ·have d5f0:decide ((2251799813685248:Int)≤g)=false:=decide_eq_false (by omega)
     have d5f1:decide (2251799813685248≤g)=false:=decide_eq_false (by omega)
     obtain rfl:5=r:=by rw[←hr,if_neg c1,if_neg c3,if_neg c4,if_neg c5]
     clear c1 c3 c4 c5 hr
     go_enter Tryz.func7,Tryz.ntmps7
     go_wp2
     go_ret
     exact⟨rfl,rfl⟩
theorem plain_n {w:World}:Calls Tryz.prog 10 #[] w (fun e w'=>e= .returned (.agg #[.int .i64 0,.int .i64 64,.int .i64 1024,.pointer none])∧Below w.heap.size w w'):=by
 go_enter Tryz.func10,Tryz.ntmps10
 go_wp2
 obtain⟨z0,z1,z2,z3,-⟩:=(blk_new (w:=w) (T:=33) (c:= #[.int .i64 0,.int .i64 64,.int .i64 1024,.pointer none])).open4
 refine bodyPost_ret (v:= .agg #[.int .i64 0,.int .i64 64,.int .i64 1024,.pointer none]) (by simp[results,Tryz.results10,go_sem,z0,z1,z2,z3]) rfl ⟨rfl,below_alloc _ _⟩
def planB (a b:Int):Bool:=decide (32≤a)&&decide (a≤b)&&decide (64≤b)&&decide (b≤8192)
theorem planB_iff {a b:Int}:planB a b=true↔planOk a b:=by unfold planB planOk;simp;omega
def rightW (dir fr pt:Int):Bool:=decide (0≤dir)&&decide (dir≤3)&&planB fr pt
def farW (pt:Int):Bool:=decide (1024<pt)&&decide (pt≤8192)
def spec31 (k x:Nat):Nat×Int×Bool:=
 if 3<kindN x then(9221120237041090560,if kindN x=5 then 16 else 0,true)
 else if k=0 then(if kindN x=0 then(4607182418800017408,0,true)else if kindN x=3 then(if negN x=true then(0,0,true)else(x,0,true))else(x,0,false))
 else if k=1 then(if kindN x=0 then(18442240474082181120,8,true)else if negN x=true then(9221120237041090560,16,true)else if x=4607182418800017408 then(0,0,true)else if kindN x=3 then(x,0,true)else(x,0,false))
 else(if kindN x=3 then(if negN x=true then(13830554455654793216,0,true)else(x,0,true))else if kindN x=0 then(x,0,true)else(x,0,false))
theorem kind_le (x:Nat):kindN x≤5:=by
 unfold kindN
 split
 ·split<;>omega
 ·split
  ·omega
  ·split
   ·omega
   ·split<;>omega
end Go.Proofs.YtffaefjkpipjnaaGreatDoor

namespace Go.Proofs.YtffaefjkpipjnaaGreatDoor
set_option maxRecDepth 100000
open Go.RowKit Go.ChangeShapes Go.WideShapes
set_option linter.unusedVariables false
set_option linter.unusedSimpArgs false
theorem dyB_one:dyB 4607182418800017408=⟨false,1,0⟩:=by
 have h:low2 4503599627370496=52:=low2_uniq (m:=0) (by decide)
 unfold dyB
 rw[show negN 4607182418800017408=false by decide,show mntN 4607182418800017408=4503599627370496 by decide,show expN 4607182418800017408= -52 by decide,bareD_pos (show(⟨false,4503599627370496,-52⟩:Dn).m≠0 by decide)]
 dsimp only
 rw[h]
 rfl
theorem exp_one {w:World}(hT:Tab w):Calls Tryz.prog 11 #[.int .u64 4607182418800017408,.agg #[.int .i64 0,.int .i64 64,.int .i64 1024,.pointer none]] w (fun r w'=>∃tr,r= .returned (.tuple #[.agg #[.int .u64 4613303445314885481,.int .u8 1,.int .i64 0],.int .i64 tr,.int .i64 0])∧Below w.heap.size w w'):=by
 refine(show Calls Tryz.prog 11 #[.int .u64 4607182418800017408,.agg #[.int .i64 0,.int .i64 64,.int .i64 1024,.pointer none]] w _ from eexp_fin (w:=w) (x:=4607182418800017408) (fr:=64) (pt:=1024) (dir:=0) (by decide) (by decide) (by decide) (by decide) (by decide) (by decide) (by decide) hT (by decide) (by decide)).mono ?_
 rintro r w' ⟨b,f,st,tr,rfl,h,hb⟩
 rw[dyB_one]at h
 obtain⟨rfl,rfl,rfl⟩:=exp_alive h
 exact⟨tr,rfl,hb⟩
theorem alive31_any {w:World}(hT:Tab w):Calls Tryz.prog 6 #[] w (fun e w'=>e= .returned (.bool true)∧Below w.heap.size w w'):=by
 have HP:=Lib.hid (fun w=>plain_n (w:=w))
 have HE:=Lib.hid (fun w (hT:Tab w)=>exp_one (w:=w) hT)
 have HL:=Lib.hid (fun w=>show Calls Tryz.prog 12 #[.int .u64 0,.agg #[.int .i64 0,.int .i64 0,.int .i64 0,.pointer none]] w _ from eln_bad (w:=w) (x:=0) (a:=0) (b:=0) (dir:=0) (by decide) (.inl (by unfold planOk;omega)))
 go_enter Tryz.func6,Tryz.ntmps6
 go_wp2_with
  (first
    |(go_at_call 10;(with_reducible refine(HP.out _).mono ?_);rintro e w1 ⟨rfl,hb1⟩;have B1:=hb1;have T1:=hT.below hb1;clear hT)
    |(go_at_call 11;(with_reducible refine(HE.out _ T1).mono ?_);rintro e w2 ⟨tr,rfl,hb2⟩;have B2:=B1.trans (hb2.mono B1.size);have T2:=T1.below hb2;clear T1)
    |(go_at_call 12;(with_reducible refine(HL.out _).mono ?_);rintro e w3 ⟨rfl,hb3⟩;have hb3':=(below_a hb3);have B3:=B2.trans (hb3'.mono B2.size);have T3:=T2.below hb3';clear T2;have R3:=blk_new.below hb3;obtain⟨cR0_3,cR1_3,cR2_3,fR0_3,fR1_3,fR2_3,sR_3⟩:=R3.open3)
    |fail)
 go_ret
 exact⟨rfl,below_al B3 _⟩
def Res31 (k x fr pt:Nat) (dir:Int) (b:Nat) (f st tr:Int):Prop:=
 if k=0 then ExpRes (dyB x) fr pt dir b f st tr else if k=1 then LnRes x fr pt dir b f st tr else Ex1Res x fr pt dir b f st tr
def CallR (k x:Nat) (dir fr pt:Int) (b:Nat) (f st tr er:Int):Prop:=
 (rightW dir fr pt=false∧b=0∧f=0∧st=0∧tr=0∧er=1)∨
 (rightW dir fr pt=true∧er=0∧(((spec31 k x).2.2=true∧b=(spec31 k x).1∧f=(spec31 k x).2.1∧st=0∧tr=0)∨((spec31 k x).2.2=false∧Res31 k x fr.toNat pt.toNat dir b f st tr)))
theorem callR_bad {k x:Nat}{dir fr pt:Int}(h:rightW dir fr pt=false):CallR k x dir fr pt 0 0 0 0 1:= .inl ⟨h,rfl,rfl,rfl,rfl,rfl⟩
theorem callR_spec {k x b:Nat}{dir fr pt f:Int}(h:rightW dir fr pt=true) (hs:spec31 k x=(b,f,true)):CallR k x dir fr pt b f 0 0 0:= .inr ⟨h,rfl,.inl ⟨by rw[hs],by rw[hs],by rw[hs],rfl,rfl⟩⟩
theorem callR_res {k x b c:Nat}{dir fr pt f g st tr:Int}(h:rightW dir fr pt=true) (hs:spec31 k x=(c,g,false)) (hr:Res31 k x fr.toNat pt.toNat dir b f st tr):CallR k x dir fr pt b f st tr 0:= .inr ⟨h,rfl,.inr ⟨by rw[hs],hr⟩⟩
theorem rightW_parts {dir fr pt:Int}(h:rightW dir fr pt=true):0≤dir∧dir≤3∧32≤fr∧fr≤pt∧64≤pt∧pt≤8192:=by
 unfold rightW planB at h
 simp only[Bool.and_eq_true,decide_eq_true_eq]at h
 omega
theorem rightW_bad {dir fr pt:Int}(h:rightW dir fr pt=false):¬planOk fr pt∨dir<0∨3<dir:=by
 rcases Classical.em (planOk fr pt)with hp|hp
 ·right
  rcases Int.lt_or_le dir 0 with h0|h0
  ·exact .inl h0
  ·rcases Int.lt_or_le 3 dir with h3|h3
   ·exact .inr h3
   ·exfalso
    unfold rightW at h
    rw[planB_iff.2 hp,decide_eq_true h0,decide_eq_true h3]at h
    cases h
 ·exact .inl hp
theorem far_small {pt:Int}(h:farW pt=false) (h2:pt≤8192):pt≤1024:=by
 unfold farW at h
 rcases Int.lt_or_le 1024 pt with h3|h3
 ·rw[decide_eq_true h3,decide_eq_true h2]at h;cases h
 ·exact h3
section
variable {w:World}{x:Nat}{dir fr pt:Int}
abbrev retC (b:Nat) (f st tr er:Int):Ending:= .returned (.tuple #[.agg #[L64 b,.int .u8 f,.int .i64 st],.int .i64 tr,.int .i64 er])
theorem kind_inf (hx:x<18446744073709551616) (hk:kindN x=3) (hn:negN x=false):x=9218868437227405312:=by
 unfold negN at hn
 have h1:=of_decide_eq_false hn
 unfold kindN fldN frcN at hk
 split at hk
 ·split at hk<;>omega
 ·split at hk
  ·omega
  ·split at hk
   ·omega
   ·split at hk<;>omega
theorem exp_call (hx:x<18446744073709551616) (hT:Tab w) (hf:farW pt=false):Calls Tryz.prog 11 #[L64 x,.agg #[.int .i64 dir,.int .i64 fr,.int .i64 pt,.pointer none]] w (fun r w'=>∃b f st tr er,r=retC b f st tr er∧CallR 0 x dir fr pt b f st tr er∧Below w.heap.size w w'):=by
 cases hr:rightW dir fr pt
 ·refine(eexp_bad hx (rightW_bad hr)).mono ?_
  rintro r w' ⟨rfl,hb⟩
  exact⟨0,0,0,0,1,rfl,callR_bad hr,hb⟩
 ·obtain⟨d0,d3,p1,p2,p3,p4⟩:=rightW_parts hr
  have p5:=far_small hf p4
  obtain⟨a,rfl⟩:=Int.eq_ofNat_of_zero_le (show 0≤fr by omega)
  obtain⟨b,rfl⟩:=Int.eq_ofNat_of_zero_le (show 0≤pt by omega)
  have h1:32≤a:=by omega
  have h2:a≤b:=by omega
  have h3:64≤b:=by omega
  have h4:b≤8192:=by omega
  have h5:b≤7000:=by omega
  have hk5:=kind_le x
  by_cases k5:kindN x=5
  ·refine(eexp_sig hx h1 h2 h3 h4 d0 d3 k5).mono ?_
   rintro r w' ⟨rfl,hb⟩
   exact⟨9221120237041090560,16,0,0,0,rfl,callR_spec hr (by unfold spec31;rw[if_pos (by omega),if_pos k5]),hb⟩
  by_cases k4:kindN x=4
  ·refine(eexp_quiet hx h1 h2 h3 h4 d0 d3 k4).mono ?_
   rintro r w' ⟨rfl,hb⟩
   exact⟨9221120237041090560,0,0,0,0,rfl,callR_spec hr (by unfold spec31;rw[if_pos (by omega),if_neg k5]),hb⟩
  have nk:¬3<kindN x:=by omega
  by_cases k0:kindN x=0
  ·refine(eexp_zero hx h1 h2 h3 h4 d0 d3 hT k0).mono ?_
   rintro r w' ⟨rfl,hb⟩
   exact⟨4607182418800017408,0,0,0,0,rfl,callR_spec hr (by unfold spec31;rw[if_neg nk,if_pos rfl,if_pos k0]),hb⟩
  by_cases k3:kindN x=3
  ·cases hn:negN x
   ·refine(eexp_pinf hx h1 h2 h3 h4 d0 d3 k3 hn).mono ?_
    rintro r w' ⟨rfl,hb⟩
    exact⟨9218868437227405312,0,0,0,0,rfl,callR_spec hr (by unfold spec31;rw[if_neg nk,if_pos rfl,if_neg k0,if_pos k3,if_neg (by rw[hn];decide),kind_inf hx k3 hn]),hb⟩
   ·refine(eexp_ninf hx h1 h2 h3 h4 d0 d3 k3 hn).mono ?_
    rintro r w' ⟨rfl,hb⟩
    exact⟨0,0,0,0,0,rfl,callR_spec hr (by unfold spec31;rw[if_neg nk,if_pos rfl,if_neg k0,if_pos k3,if_pos hn]),hb⟩
  refine(eexp_fin hx h1 h2 h3 h4 d0 d3 hT (kind_fin.1 (by omega)) k0).mono ?_
  rintro r w' ⟨b',f,st,tr,rfl,h,hb⟩
  exact⟨b',f,st,tr,0,rfl,callR_res (c:=x) (g:=0) hr (by unfold spec31;rw[if_neg nk,if_pos rfl,if_neg k0,if_neg k3]) h,hb⟩
theorem ln_call (hx:x<18446744073709551616) (hT:Tab w) (hf:farW pt=false):Calls Tryz.prog 12 #[L64 x,.agg #[.int .i64 dir,.int .i64 fr,.int .i64 pt,.pointer none]] w (fun r w'=>∃b f st tr er,r=retC b f st tr er∧CallR 1 x dir fr pt b f st tr er∧Below w.heap.size w w'):=by
 cases hr:rightW dir fr pt
 ·refine(eln_bad hx (rightW_bad hr)).mono ?_
  rintro r w' ⟨rfl,hb⟩
  exact⟨0,0,0,0,1,rfl,callR_bad hr,hb⟩
 ·obtain⟨d0,d3,p1,p2,p3,p4⟩:=rightW_parts hr
  have p5:=far_small hf p4
  obtain⟨a,rfl⟩:=Int.eq_ofNat_of_zero_le (show 0≤fr by omega)
  obtain⟨b,rfl⟩:=Int.eq_ofNat_of_zero_le (show 0≤pt by omega)
  have h1:32≤a:=by omega
  have h2:a≤b:=by omega
  have h3:64≤b:=by omega
  have h4:b≤8192:=by omega
  have h5:b≤7000:=by omega
  have hk5:=kind_le x
  by_cases k5:kindN x=5
  ·refine(eln_sig hx h1 h2 h3 h4 d0 d3 k5).mono ?_
   rintro r w' ⟨rfl,hb⟩
   exact⟨9221120237041090560,16,0,0,0,rfl,callR_spec hr (by unfold spec31;rw[if_pos (by omega),if_pos k5]),hb⟩
  by_cases k4:kindN x=4
  ·refine(eln_quiet hx h1 h2 h3 h4 d0 d3 k4).mono ?_
   rintro r w' ⟨rfl,hb⟩
   exact⟨9221120237041090560,0,0,0,0,rfl,callR_spec hr (by unfold spec31;rw[if_pos (by omega),if_neg k5]),hb⟩
  have nk:¬3<kindN x:=by omega
  by_cases k0:kindN x=0
  ·refine(eln_zero hx h1 h2 h3 h4 d0 d3 k0).mono ?_
   rintro r w' ⟨rfl,hb⟩
   exact⟨18442240474082181120,8,0,0,0,rfl,callR_spec hr (by unfold spec31;rw[if_neg nk,if_neg (by decide),if_pos rfl,if_pos k0]),hb⟩
  rcases Bool.eq_false_or_eq_true (negN x)with hn|hn
  ·refine(eln_neg hx h1 h2 h3 h4 d0 d3 (by omega) (by omega) hn).mono ?_
   rintro r w' ⟨rfl,hb⟩
   exact⟨9221120237041090560,16,0,0,0,rfl,callR_spec hr (by unfold spec31;rw[if_neg nk,if_neg (by decide),if_pos rfl,if_neg k0,if_pos hn]),hb⟩
  have nn:¬negN x=true:=by rw[hn];decide
  by_cases k1:x=4607182418800017408
  ·refine(eln_one hx h1 h2 h3 h4 d0 d3 k1).mono ?_
   rintro r w' ⟨rfl,hb⟩
   exact⟨0,0,0,0,0,rfl,callR_spec hr (by unfold spec31;rw[if_neg nk,if_neg (by decide),if_pos rfl,if_neg k0,if_neg nn,if_pos k1]),hb⟩
  by_cases k3:kindN x=3
  ·have hxi:x=9218868437227405312:=kind_inf hx k3 hn
   refine(eln_inf hx h1 h2 h3 h4 d0 d3 hxi).mono ?_
   rintro r w' ⟨rfl,hb⟩
   exact⟨x,0,0,0,0,by rw[hxi];rfl,callR_spec hr (by unfold spec31;rw[if_neg nk,if_neg (by decide),if_pos rfl,if_neg k0,if_neg nn,if_neg k1,if_pos k3]),hb⟩
  refine(eln_fin hx h1 h2 h3 h4 d0 d3 hT (kind_fin.1 (by omega)) k0 hn k1).mono ?_
  rintro r w' ⟨b',f,st,tr,rfl,h,hb⟩
  exact⟨b',f,st,tr,0,rfl,callR_res (c:=x) (g:=0) hr (by unfold spec31;rw[if_neg nk,if_neg (by decide),if_pos rfl,if_neg k0,if_neg nn,if_neg k1,if_neg k3]) h,hb⟩
end
end Go.Proofs.YtffaefjkpipjnaaGreatDoor

namespace Go.Proofs.YtffaefjkpipjnaaGreatDoor
set_option linter.unusedVariables false
set_option linter.unusedSimpArgs false
set_option maxRecDepth 100000
open Go.RowKit
def HoldE (v a c:Rat):Prop:=XL (-v) a 1∧XL v 1 c
def HoldL (n:Bool) (v a c:Rat):Prop:=if n=true then XL a v 1∧XL (-c) 1 v else XL a 1 v∧XL (-c) v 1
theorem ln_rg {x fr pt b:Nat}{dir f tr:Int}(h:LnRes x fr pt dir b f 0 tr):RgP (HoldL (decide (x<4607182418800017408)) (qv (dyB x))) (decide (x<4607182418800017408)) dir b f:=by
 obtain⟨l,hl,hr⟩:=h
 generalize decide (x<4607182418800017408)=ng at*
 obtain⟨n,lo,hi,⟨l',h',o,e1,e2⟩,⟨n1,n2⟩,o1,o2⟩:=run_rg hr
 rw[qv_size n1]at e1
 rw[qv_size n2]at e2
 refine⟨_,_,_,_,o1,o2,?_⟩
 have hln:=o.ln
 unfold HoldL
 cases ng
 ·rw[if_neg (by decide)]at e1 e2⊢
  rw[e1,e2]
  exact⟨hln.lo,hln.hi⟩
 ·rw[if_pos rfl]at e1 e2⊢
  rw[e1,e2]
  exact⟨hln.hi,by rw[show- -qv l'=qv l' by grind];exact hln.lo⟩
theorem flt_grid {x:Nat}(hf:fldN x<2047) (h0:(dyB x).m≠0):(dyB x).neg=negN x∧((dyB x).m:Rat)*pw (dyB x).e=(mntN x:Rat)*pw (expN x)∧unitB (topD (dyB x))≤expN x∧-1074≤expN x:=by
 obtain⟨hm,hb,h53,hv⟩:=dyB_mid hf
 have hM:mntN x≠0:=fun h=>h0 (by unfold dyB;rw[bareD_zero (show(⟨negN x,mntN x,expN x⟩:Dn).m=0 from h)])
 have he1: -1074≤expN x:=by unfold expN;omega
 have he2:expN x≤971:=by unfold expN;omega
 have hd:dyB x=⟨negN x,mntN x/2^low2 (mntN x),cutE (expN x)+(low2 (mntN x):Nat)⟩:=by
  unfold dyB
  rw[bareD_pos (show(⟨negN x,mntN x,expN x⟩:Dn).m≠0 from hM)]
 have hc:cutE (expN x)=expN x:=by unfold cutE;omega
 have hl:=bitN_low2 hM
 have hb:=mnt_bits x
 have hn:(dyB x).neg=negN x:=by rw[hd]
 have hval:((dyB x).m:Rat)*pw (dyB x).e=(mntN x:Rat)*pw (expN x):=by
  unfold qv at hv
  rw[hn]at hv
  dsimp only at hv
  generalize negN x=g at hv
  cases g
  ·rw[if_neg (by decide),if_neg (by decide)]at hv;exact hv
  ·rw[if_pos rfl,if_pos rfl]at hv;grind
 have ht:topD (dyB x)=(bitN (mntN x):Int)-1+expN x:=by
  rw[hd]
  unfold topD
  dsimp only
  rw[hc]
  omega
 refine⟨hn,hval,?_,he1⟩
 rw[ht]
 unfold unitB
 omega
def ordN (b:Nat):Int:=if 9223372036854775808≤b then-((b-9223372036854775808:Nat):Int)else(b:Int)
theorem szB_le {n:Bool}{M:Nat}{E dir:Int}(h0:M≠0):szB n M E dir≤9218868437227405312:=by
 unfold szB
 split
 ·split<;>decide
 ·split
  ·split<;>decide
  ·exact size_inf h0 (by omega)
theorem ord_signed {s:Nat}{n:Bool}(h:s≤9218868437227405312):ordN (signedB s n)=if n=true then-(s:Int)else(s:Int):=by
 unfold ordN signedB
 cases n
 ·simp only[Bool.false_eq_true,if_false]
  rw[if_neg (by omega)]
 ·simp only[if_true]
  rw[if_pos (by omega)]
  omega
end Go.Proofs.YtffaefjkpipjnaaGreatDoor

namespace Go.Proofs.YtffaefjkpipjnaaGreatDoor
set_option maxRecDepth 100000
open Go.RowKit
set_option linter.unusedVariables false
def sizeN (b:Nat):Nat:=b%9223372036854775808
theorem mnt_sig {x:Nat}(hx:x<18446744073709551616):mntN x=sigF (sizeN x)∧expN x=unitE (sizeN x):=by
 unfold mntN expN fldN frcN sigF unitE sizeN
 have e1:x%9223372036854775808/4503599627370496=x/4503599627370496%2048:=by omega
 have e2:x%9223372036854775808%4503599627370496=x%4503599627370496:=by omega
 rw[e1,e2]
 by_cases c:x/4503599627370496%2048=0
 ·rw[c,if_neg (by omega),if_pos rfl,if_pos rfl]
  refine⟨by omega,by omega⟩
 ·rw[if_pos (by omega),if_neg c,if_neg c]
  refine⟨rfl,by omega⟩
theorem szv_zero:szv 0=0:=by
 have e:sigF 0=0:=rfl
 unfold szv
 rw[e];exact Rat.zero_mul _
theorem val_size {x:Nat}(hx:x<18446744073709551616) (hf:fldN x<2047):qv (dyB x)=if negN x=true then-szv (sizeN x)else szv (sizeN x):=by
 obtain⟨-,-,-,hv⟩:=dyB_mid hf
 obtain⟨h1,h2⟩:=mnt_sig hx
 rw[hv]
 unfold qv szv
 dsimp only
 rw[h1,h2]
theorem ord_size {x:Nat}(hx:x<18446744073709551616):ordN x=if negN x=true then-(sizeN x:Int)else(sizeN x:Int):=by
 unfold ordN negN sizeN
 by_cases c:9223372036854775808≤x
 ·rw[if_pos c,decide_eq_true c,if_pos rfl];omega
 ·rw[if_neg c,decide_eq_false c,if_neg (by decide)];omega
theorem size_bounds {x:Nat}(hf:fldN x<2047):sizeN x<9218868437227405312:=by
 unfold fldN at hf
 unfold sizeN
 omega
theorem size_zero' {x:Nat}(hk:kindN x=0):sizeN x=0:=by
 unfold kindN fldN frcN at hk
 unfold sizeN
 split at hk
 ·split at hk<;>omega
 ·split at hk
  ·omega
  ·split at hk
   ·omega
   ·split at hk<;>omega
theorem XL.vals {v v' a c:Rat}(h1:XL (-v) a 1) (h2:XL v' 1 c) (hv:v≤v'):a≤c:=by
 have h:=h1.mul h2
 rw[Rat.mul_one,Rat.one_mul]at h
 exact(h.mono (p:=0) (by grind)).zero_le
section
variable {x y b b':Nat}{dir f f' tr tr':Int}
end
end Go.Proofs.YtffaefjkpipjnaaGreatDoor

namespace Go.Proofs.YtffaefjkpipjnaaGreatDoor
set_option linter.unusedVariables false
set_option linter.unusedSimpArgs false
set_option maxRecDepth 100000
open Go.RowKit Go.ChangeShapes Go.WideShapes
theorem andnot_63 (x:Nat) (hx:x<18446744073709551616):bits .andNot .u64 (x:Int) 9223372036854775808=((x%9223372036854775808:Nat):Int):=by
 have h1:bits .andNot .u64 (x:Int) 9223372036854775808=bits .and .u64 (x:Int) 9223372036854775807:=by
  have e: ~~~(BitVec.ofInt IntKind.u64.bits 9223372036854775808)=BitVec.ofInt IntKind.u64.bits 9223372036854775807:=by decide
  unfold bits
  dsimp only
  rw[e]
 have:=bits_mask .u64 64 (by decide) (fun n h0 h1=>by rw[IntKind.wrap_u64];omega) 63 (by decide) x (by omega) (by omega)
 have e:((2:Int)^63-1)=9223372036854775807:=by decide
 rw[e]at this
 rw[h1,this];omega
theorem order31_n {w:World}{b:Nat}(hb:b<18446744073709551616):Calls Tryz.prog 13 #[L64 b] w (fun e w'=>e= .returned (.int .i64 (ordN b))∧w'=w):=by
 obtain⟨r,hr⟩:∃r,ordN b=r:=⟨_,rfl⟩
 rw[hr]
 unfold ordN at hr
 by_cases c:9223372036854775808≤b
 ·have d1:decide ((9223372036854775808:Int)≤(b:Int))=true:=decide_eq_true (by omega)
  have d2:decide (9223372036854775808≤b)=true:=decide_eq_true c
  have h1:=andnot_63 b hb
  obtain⟨m,hm⟩:∃m,b%9223372036854775808=m:=⟨_,rfl⟩
  rw[hm]at h1
  have w1:IntKind.i64.wrap (m:Int)=(m:Int):=by rw[IntKind.wrap_i64];omega
  have w2:IntKind.i64.wrap (-(m:Int))= -(m:Int):=by rw[IntKind.wrap_i64];omega
  rw[if_pos c]at hr
  obtain rfl: -(m:Int)=r:=by omega
  clear hr hm c hb
  go_enter Tryz.func13,Tryz.ntmps13
  go_wp2
  go_ret
  exact⟨rfl,rfl⟩
 ·have d1:decide ((9223372036854775808:Int)≤(b:Int))=false:=decide_eq_false (by omega)
  have d2:decide (9223372036854775808≤b)=false:=decide_eq_false c
  have w1:IntKind.i64.wrap (b:Int)=(b:Int):=by rw[IntKind.wrap_i64];omega
  rw[if_neg c]at hr
  obtain rfl:(b:Int)=r:=hr
  clear c hb
  go_enter Tryz.func13,Tryz.ntmps13
  go_wp2
  go_ret
  exact⟨rfl,rfl⟩
theorem callR_er {k x b:Nat}{dir fr pt f st tr er:Int}(hr:rightW dir fr pt=true) (h:CallR k x dir fr pt b f st tr er):er=0:=by
 rcases h with⟨h,-⟩|⟨-,h,-⟩
 ·rw[hr]at h;cases h
 ·exact h
theorem spec_bits {k x:Nat}(hx:x<18446744073709551616):(spec31 k x).1<18446744073709551616:=by
 unfold spec31
 repeat' split
 all_goals first|exact hx|decide
theorem rg_bits {P:Rat→Rat→Prop}{n:Bool}{dir f:Int}{b:Nat}(h:RgP P n dir b f):b<18446744073709551616:=by
 obtain⟨M,E,-,-,o,-,-⟩:=h
 have h1:=szB_le (n:=n) (E:=E) (dir:=dir) o.ne
 rw[o.sz]
 unfold signedB
 split<;>omega
end Go.Proofs.YtffaefjkpipjnaaGreatDoor

namespace Go.Proofs.YtffaefjkpipjnaaGreatDoor
set_option maxRecDepth 100000
open Go.RowKit
set_option linter.unusedVariables false
section
variable {x b c:Nat}{f g t u:Int}
theorem XL.between {v l h:Rat}(hl:XL (-v) l 1) (hh:XL v 1 h):l≤h:=XL.vals hl hh Rat.le_refl
theorem End.szf {M b:Nat}{E dir f:Int}(o:End false M E dir b f):b=szB false M E dir:=by
 have h:=o.sz
 unfold signedB at h
 rw[if_neg (by decide)]at h
 exact h
theorem back_exp {v:Rat}(h1: -512≤v) (h2:v≤512) (h:RgP (HoldE v) false 0 b f):
 0<b∧b<9218868437227405312∧XL (-(v+pw (-53))) (szv b) 1∧XL (v-pw (-52)) 1 (szv b):=by
 obtain⟨M1,E1,M2,E2,o1,o2,p1,p2⟩:=h
 have g1:(M1:Rat)*pw E1≤pw 900:=XL.between p1 (exp_512.mono h2)
 have g2:pw (-900)≤(M2:Rat)*pw E2:=by
  have k:=exp_512.scale (pw_pos (-900))
  have e:=pw_neg 900
  rw[Rat.one_mul,Rat.mul_comm,e]at k
  exact XL.between (k.mono (p:= -v) (by grind)) p2
 obtain⟨t2,-⟩:=top_ge (n:=false) g2
 have t1:topD ⟨false,M1,E1⟩<901:=top_lt (t:=900+1) o1.ne (by
  have h:=pw_lt_succ 900
  generalize pw 900=p at g1 h
  grind)
 have hs:szB false M1 E1 0<9218868437227405312:=szB_small o1.ne t1
 have e1:=o1.szf
 have e2:=o2.szf
 have r1: -1022≤topD ⟨false,M1,E1⟩∧topD ⟨false,M1,E1⟩≤1023:=by
  rcases flag_of o1 with⟨h5,h|h⟩|⟨h3,-⟩|⟨-,a,b,-⟩
  ·omega
  ·omega
  ·rcases flag_of o2 with⟨h5,-⟩|⟨-,h,-⟩|⟨h1,-⟩<;>omega
  ·exact⟨a,b⟩
 have r2: -1022≤topD ⟨false,M2,E2⟩∧topD ⟨false,M2,E2⟩≤1023:=by
  rcases flag_of o2 with⟨h5,h|h⟩|⟨h3,h,-⟩|⟨-,a,b,-⟩
  ·rcases flag_of o1 with⟨-,h|h⟩|⟨h3,-⟩|⟨h1,-⟩<;>omega
  ·omega
  ·omega
  ·exact⟨a,b⟩
 have n1:=(near_unit o1.ne r1.1 r1.2).1
 have n2:=(near_unit o2.ne r2.1 r2.2).2
 rw[←e1]at n1
 rw[←e2]at n2
 have ep:=pw_pos (-53)
 have ee:pw (-52)=2*pw (-53):=by have:=pw_succ (-53);rw[show(-53:Int)+1= -52 by decide]at this;exact this
 have es:pw (-53)<1/4:=by
  have a:pw (-53)≤pw (-3):=pw_mono (by decide)
  have b:pw (-3)<1/4:=by decide+kernel
  grind
 have m2:0<(M2:Rat)*pw E2:=Rat.mul_pos (Rat.natCast_pos.2 (Nat.pos_of_ne_zero o2.ne)) (pw_pos _)
 have vp:0<szv b:=by
  have:0<(M2:Rat)*pw E2*(1-pw (-53)):=Rat.mul_pos m2 (by grind)
  grind
 refine⟨?_,by omega,?_,?_⟩
 ·rcases Nat.eq_zero_or_pos b with h|h
  ·rw[h,szv_zero]at vp;exact absurd vp Rat.lt_irrefl
  ·exact h
 ·have k:=p1.mul (XL.neg_lin (q:=pw (-53)) (Rat.le_of_lt ep))
  rw[Rat.mul_one,show-v+ -pw (-53)= -(v+pw (-53))by grind]at k
  exact k.down vp n1
 ·have k:=p2.mul (XL.neg_lin (q:=pw (-52)) (by grind))
  rw[Rat.one_mul,Rat.mul_one,show v+ -pw (-52)=v-pw (-52)by grind]at k
  have k2:=k.up (d':=szv b*(1+pw (-52))) (by
   have k3:=Rat.mul_le_mul_of_nonneg_right n2 (show 0≤1+pw (-52)by grind)
   refine Rat.le_trans ?_ k3
   have k4:1≤(1-pw (-53))*(1+pw (-52)):=by rw[ee];generalize pw (-53)=ε at*;have:=Rat.mul_nonneg (Rat.le_of_lt ep) (show 0≤1-2*ε by grind);grind
   have k5:=Rat.mul_le_mul_of_nonneg_left k4 (Rat.le_of_lt m2)
   rw[Rat.mul_one,←Rat.mul_assoc]at k5
   exact k5)
  refine XL.unscale (r:=1+pw (-52)) (by grind) (by decide) vp ?_
  rw[Rat.one_mul]
  exact k2
theorem back_gen (hz:b<9218868437227405312) (h0:0<b) (h:CallR 1 b 0 64 1024 c g 0 u 0) (b1:b≠4607182418800017408):
 kindN b<3∧RgP (HoldL (decide (b<4607182418800017408)) (qv (dyB b))) (decide (b<4607182418800017408)) 0 c g:=by
 have nn:¬negN b=true:=by unfold negN;rw[decide_eq_false (by omega)];decide
 have kf:fldN b<2047:=by unfold fldN;omega
 have kl:=kind_fin.2 kf
 have k0:kindN b≠0:=by
  intro k
  have:=size_zero' k
  unfold sizeN at this
  omega
 refine⟨kl,?_⟩
 rcases h with⟨hr,-,-,-,-,he⟩|⟨-,-,⟨hs,-⟩|⟨hs,hr⟩⟩
 ·exact absurd he (by decide)
 ·exfalso
  unfold spec31 at hs
  rw[if_neg (by omega),if_neg (by decide),if_pos rfl,if_neg k0,if_neg nn,if_neg b1,if_neg (by omega)]at hs
  cases hs
 ·exact ln_rg hr
theorem back_law (hx:x<18446744073709551616) (kx:kindN x=2) (t0:0≤topD (dyB x)) (t8:topD (dyB x)≤8) (h:CallR 0 x 0 64 1024 b f 0 t 0) (h':CallR 1 b 0 64 1024 c g 0 u 0):ordN c-ordN x≤2∧-2≤ordN c-ordN x:=by
 have hf:=kind_fin.1 (show kindN x<3 by omega)
 have hz:(dyB x).m≠0:=fun h0=>by have:=(kind_zero hf).2 h0;omega
 have hE:RgP (HoldE (qv (dyB x))) false 0 b f:=by
  rcases h with⟨hr,-,-,-,-,he⟩|⟨-,-,⟨hs,-⟩|⟨hs,hr⟩⟩
  ·exact absurd he (by decide)
  ·exfalso
   unfold spec31 at hs
   rw[if_neg (by omega),if_pos rfl,if_neg (by omega),if_neg (by omega)]at hs
   cases hs
  ·exact exp_rg hr (by decide) (by decide) hz
 have vx:=val_size hx hf
 have ox:=ord_size hx
 have sb:=size_bounds hf
 obtain⟨i1,i2⟩:=top_in (n:=(dyB x).neg) (E:=(dyB x).e) hz
 have hq:(dyB x).m*pw (dyB x).e=szv (sizeN x):=by
  have:=vx
  unfold qv at this
  rw[(flt_grid hf hz).1]at this
  split at this
  ·grind
  ·exact this
 have s1:(1:Rat)≤szv (sizeN x):=by
  rw[←hq]
  refine Rat.le_trans ?_ i1
  have:=pw_mono t0
  rw[pw_zero]at this
  exact this
 have s2:szv (sizeN x)≤512:=by
  rw[←hq]
  refine Rat.le_trans (Rat.le_of_lt i2) ?_
  have:pw (topD ⟨(dyB x).neg,(dyB x).m,(dyB x).e⟩+1)≤pw 9:=pw_mono (by have:topD ⟨(dyB x).neg,(dyB x).m,(dyB x).e⟩=topD (dyB x):=rfl;omega)
  refine Rat.le_trans this ?_
  decide+kernel
 have one:szv 4607182418800017408=1:=by decide+kernel
 have S1:4607182418800017408≤sizeN x:=by
  rcases Nat.lt_or_ge (sizeN x) 4607182418800017408 with c|c
  ·have:=szv_mono_lt c;grind
  ·exact c
 obtain⟨S,hS⟩:∃S,sizeN x=S:=⟨_,rfl⟩
 rw[hS]at vx ox sb hq s1 s2 S1
 have up:=step_up S1
 have dn:=step_down S1
 have ep:=pw_pos (-53)
 have ee:pw (-52)=2*pw (-53):=by have:=pw_succ (-53);rw[show(-53:Int)+1= -52 by decide]at this;exact this
 have es:pw (-53)<1/4:=by
  have a:pw (-53)≤pw (-3):=pw_mono (by decide)
  have b:pw (-3)<1/4:=by decide+kernel
  grind
 have hv:(-512:Rat)≤qv (dyB x)∧qv (dyB x)≤512:=by rw[vx];split<;>constructor<;>grind
 obtain⟨b0,bi,ku,kd⟩:=back_exp hv.1 hv.2 hE
 have nb:negN b=false:=by unfold negN;exact decide_eq_false (by omega)
 have szb:sizeN b=b:=by unfold sizeN;omega
 have hvb:=val_size (show b<18446744073709551616 by omega) (show fldN b<2047 by unfold fldN;omega)
 rw[nb,if_neg (by decide),szb]at hvb
 have hord:∀{n:Bool}{M:Nat}{E:Int},End n M E 0 c g→ordN c=if n=true then-(szB n M E 0:Int)else(szB n M E 0:Int):=by
  intro n M E o
  rw[o.sz]
  exact ord_signed (szB_le o.ne)
 have fin:∀{n:Bool}{M1 M2:Nat}{E1 E2:Int},End n M1 E1 0 c g→End n M2 E2 0 c g→(M1:Rat)*pw E1≤szv S+pw (-52)→szv S-pw (-52)≤(M2:Rat)*pw E2→∃T:Nat,ordN c=(if n=true then-(T:Int)else(T:Int))∧T≤S+2∧S≤T+2:=by
  intro n M1 M2 E1 E2 o1 o2 l1 l2
  refine⟨szB n M1 E1 0,hord o1,?_,?_⟩
  ·rcases Nat.lt_or_ge (S+2) 9218868437227405312 with hlt|hge
   ·have:=sz_mono (n:=n) (dir:=0) (M:=M1) (E:=E1) (M':=sigF (S+2)) (E':=unitE (S+2)) o1.ne (sigF_pos (by omega)) (by have:szv (S+2)=(sigF (S+2):Rat)*pw (unitE (S+2)):=rfl;rw[←this];grind)
    rw[szB_exact n 0 (by omega) hlt]at this
    exact this
   ·exact Nat.le_trans (szB_le o1.ne) hge
  ·have e:szB n M1 E1 0=szB n M2 E2 0:=signedB_inj (o1.sz.symm.trans o2.sz)
   rw[e]
   have:=sz_mono (n:=n) (dir:=0) (M:=sigF (S-2)) (E:=unitE (S-2)) (M':=M2) (E':=E2) (sigF_pos (by omega)) o2.ne (by have:szv (S-2)=(sigF (S-2):Rat)*pw (unitE (S-2)):=rfl;rw[←this];grind)
   rw[szB_exact n 0 (by omega) (by omega)]at this
   omega
 rw[ox]
 cases hn:negN x
 ·
  rw[hn,if_neg (by decide)]at vx
  rw[vx]at ku kd
  have hb1:4607182418800017408<b:=by
   rcases Nat.lt_or_ge 4607182418800017408 b with h|h
   ·exact h
   ·have:=szv_mono h
    rw[one]at this
    have:=(kd.up this).le_zero
    grind
  obtain⟨kl,M1,E1,M2,E2,o1,o2,hq'⟩:=back_gen bi b0 h' (by omega)
  rw[decide_eq_false (by omega)]at o1 o2 hq'
  unfold HoldL at hq'
  rw[if_neg (by decide),hvb]at hq'
  have l1:=hq'.1.le_of ku
  have l2:=kd.le_of hq'.2
  obtain⟨T,hT,a1,a2⟩:=fin o1 o2 (by grind) (by grind)
  rw[if_neg (by decide)]at hT
  rw[hT,if_neg (by decide)]
  omega
 ·rw[hn,if_pos rfl]at vx
  rw[vx]at ku kd
  have hb1:b<4607182418800017408:=by
   rcases Nat.lt_or_ge b 4607182418800017408 with h|h
   ·exact h
   ·have:=szv_mono h
    rw[one]at this
    have:=(ku.down (by decide) this).le_zero
    grind
  obtain⟨kl,M1,E1,M2,E2,o1,o2,hq'⟩:=back_gen bi b0 h' (by omega)
  rw[decide_eq_true hb1]at o1 o2 hq'
  unfold HoldL at hq'
  rw[if_pos rfl,hvb]at hq'
  have l1:=hq'.1.le_of (q:= -(-szv S-pw (-52))) (by rw[Rat.neg_neg];exact kd)
  have l2:=ku.le_of hq'.2
  obtain⟨T,hT,a1,a2⟩:=fin o1 o2 (by grind) (by grind)
  rw[if_pos rfl]at hT
  rw[hT,if_pos rfl]
  omega
end
theorem signed_bits {s:Nat}{n:Bool}(h:s<9223372036854775808):signedB s n<18446744073709551616:=by
 unfold signedB
 split<;>omega
theorem size_bits {n more:Bool}{M:Nat}{E dir:Int}(h0:M≠0) (ht:topD ⟨n,M,E⟩≤1023):sizeB n M E more dir<9223372036854775808:=by
 have h1:=(whole_le (n:=n) (more:=more) (dir:=dir) h0 (rfl:topD ⟨n,M,E⟩=_)).1
 have h2:(unitB (topD ⟨n,M,E⟩)+1074).toNat≤2045:=by unfold unitB;omega
 have h3:=Nat.mul_le_mul_right 4503599627370496 h2
 unfold sizeB
 exact Nat.lt_of_le_of_lt (Nat.add_le_add h1 h3) (by decide)
theorem toB_bits {n more:Bool}{M:Nat}{E dir:Int}(h0:M≠0):(toB n M E more dir).1<18446744073709551616:=by
 unfold toB
 split
 ·unfold overB
  refine signed_bits ?_
  split<;>decide
 ·split
  ·unfold underB
   refine signed_bits ?_
   split<;>decide
  ·exact signed_bits (size_bits h0 (by omega))
theorem loose_bits {neg ok:Bool}{lo hi:Dn}{dir f:Int}{b:Nat}(h:looseG neg lo hi dir=(ok,b,f)):b<18446744073709551616:=by
 unfold looseG at h
 split at h
 ·rename_i hr
  obtain⟨-,-,a3,a4⟩:=hr_pos hr
  split at h
  ·have:=toB_bits (n:=neg) (more:=true) (E:=hi.e) (dir:=dir) a4
   injection h with _ h
   rw[h]at this
   exact this
  ·have:=toB_bits (n:=neg) (more:=true) (E:=lo.e) (dir:=dir) a3
   injection h with _ h
   rw[h]at this
   exact this
 ·injection h with _ h
  injection h with h _
  omega
theorem exp_bits {x b fr pt:Nat}{dir f st tr er:Int}(hx:x<18446744073709551616) (kx:kindN x=2) (d0:0≤dir) (d3:dir≤3) (h:CallR 0 x dir fr pt b f st tr er):b<18446744073709551616:=by
 have hf:=kind_fin.1 (show kindN x<3 by omega)
 have hz:(dyB x).m≠0:=fun h0=>by have:=(kind_zero hf).2 h0;omega
 rcases h with⟨-,hb,-⟩|⟨-,he,⟨-,hb,-⟩|⟨hs,hr⟩⟩
 ·omega
 ·rw[hb];exact spec_bits hx
 ·have hr':ExpRes (dyB x) fr pt dir b f st tr:=hr
  rcases hr' with⟨hc,hB,hst,htr⟩|⟨hc,l,hl,h⟩
  ·exact rg_bits (exp_rg (.inl ⟨hc,hB,rfl,htr⟩:ExpRes (dyB x) fr pt dir b f 0 tr) d0 d3 hz)
  ·rcases h with⟨h0,h⟩|⟨h1,-,-,n,lo,hi,ok,b',f',-,-,hl,he⟩
   ·exact rg_bits (exp_rg (.inr ⟨hc,l,‹_›,.inl ⟨rfl,h⟩⟩:ExpRes (dyB x) fr pt dir b f 0 tr) d0 d3 hz)
   ·split at he
    ·injection he with e _
     rw[e]
     exact loose_bits hl
    ·injection he with e _
     omega
theorem back_bits {x b c:Nat}{f g t u:Int}(hx:x<18446744073709551616) (kx:kindN x=2) (t0:0≤topD (dyB x)) (t8:topD (dyB x)≤8) (h:CallR 0 x 0 64 1024 b f 0 t 0) (h':CallR 1 b 0 64 1024 c g 0 u 0):c<18446744073709551616:=by
 rcases h' with⟨-,hb,-⟩|⟨-,he,⟨-,hb,-⟩|⟨hs,hr⟩⟩
 ·omega
 ·rw[hb];exact spec_bits (exp_bits hx kx (by decide) (by decide) h)
 ·exact rg_bits (ln_rg hr)
end Go.Proofs.YtffaefjkpipjnaaGreatDoor

namespace Go.Proofs.YtffaefjkpipjnaaGreatDoor
set_option linter.unusedVariables false
set_option linter.unusedSimpArgs false
set_option maxRecDepth 100000
open Go.RowKit Go.ChangeShapes Go.WideShapes
set_option maxHeartbeats 1000000 in
theorem RWorthS_n {w:World}{x B:Nat}{EB:Int}{n':Bool}(hx:x<18446744073709551616) (e:dyB x=⟨n',B,EB⟩):
 Calls Tryz.prog 8 #[L64 x] w (fun e w'=>∃v,e= .returned (.agg #[.bool n',v,.int .i64 EB])∧RdD w' v (digs DD B)∧Below w.heap.size w w'):=by
 have hfl:fldN x<2048:=by unfold fldN;omega
 have hfr:frcN x<4503599627370496:=by unfold frcN;omega
 have hm:mntN x<9007199254740992:=by unfold mntN;split<;>omega
 have hb53:bitN (mntN x)≤53:=bitN_le.2 hm
 have hBB:BB=18446744073709551616:=rfl
 unfold dyB at e
 have HO:=Lib.hid (fun w v (h:RdN w v [mntN x])=>ROf_n (h.num1 (by omega)) (by omega) (by unfold expN;omega) (by unfold expN;omega) e)
 have P0:=blk_new (w:=w) (T:=27) (c:= #[.bool false,.slice none 0 0,.int .i64 0])
 have B0:=below_alloc w (.cells #[.bool false,.slice none 0 0,.int .i64 0] 27 (0,0))
 obtain⟨A,hA⟩:∃A,x/4503599627370496=A:=⟨_,rfl⟩
 obtain⟨a,ha⟩:∃a,fldN x=a:=⟨_,rfl⟩
 obtain⟨f,hf⟩:∃f,frcN x=f:=⟨_,rfl⟩
 obtain⟨sg,hsg⟩:∃sg,negN x=sg:=⟨_,rfl⟩
 have q1:(x:Int).tdiv 4503599627370496=(A:Int):=by rw[←hA];rfl
 have q2:(x:Int).tmod 4503599627370496=(f:Int):=by rw[←hf];rfl
 have q3:(A:Int).tmod 2048=(a:Int):=by rw[←ha];unfold fldN;rw[hA];rfl
 have w0:IntKind.u64.wrap (A:Int)=(A:Int):=by rw[IntKind.wrap_u64];omega
 have w1:IntKind.u64.wrap (a:Int)=(a:Int):=by rw[IntKind.wrap_u64];omega
 have w2:IntKind.i64.wrap (a:Int)=(a:Int):=by rw[IntKind.wrap_i64];omega
 have w3:IntKind.u64.wrap (f:Int)=(f:Int):=by rw[IntKind.wrap_u64];omega
 have w5:IntKind.i64.wrap ((a:Int)-1075)=(a:Int)-1075:=by rw[IntKind.wrap_i64];omega
 have g1:decide ((9223372036854775808:Int)≤(x:Int))=sg:=by rw[←hsg];unfold negN;congr 1;exact propext ⟨fun h=>by omega,fun h=>by omega⟩
 unfold mntN expN at HO
 rw[ha,hf,hsg]at HO
 by_cases h0:a=0
 ·subst h0
  rw[if_neg (by decide),show max ((0:Nat):Int) 1-1075= -1074 by decide]at HO
  clear hBB
  clear ha hf hA hsg hfl hfr hm hb53 e w2 w5
  go_enter Tryz.func8,Tryz.ntmps8
  go_upto_region 1 with fail
  generalize w.alloc (.cells #[.bool false,.slice none 0 0,.int .i64 0] 27 (0,0))=w0 at*
  obtain⟨cP0,cP1,cP2,fP0,fP1,fP2,sP⟩:=P0.open3
  go_wp2_with
   (first
     |(go_at_call 20;(with_reducible refine(HO.out _ _ ?_).mono ?_);(exact rd_one (heap_alloc_new _ _) trivial);rintro e w1 ⟨vx1,rfl,x1,hb1⟩;have hb1':=(below_a hb1);have B1:=B0.trans (hb1'.mono B0.size);have P1:=P0.below hb1';clear P0;obtain⟨cP0_1,cP1_1,cP2_1,fP0_1,fP1_1,fP2_1,sP_1⟩:=P1.open3;obtain⟨ax1,kx1,rfl,-⟩:=x1.view;try simp only[List.length_nil]at x1)
     |fail)
  obtain⟨z0,z1,z2,-⟩:=(P1.set3 (.bool n') (.slice ax1 (digs DD B).length kx1) (.int .i64 EB)).open3
  refine bodyPost_ret (v:= .agg #[.bool n',.slice ax1 (digs DD B).length kx1,.int .i64 EB]) ?_ rfl ?_
  ·simp[results,Tryz.results8,go_sem,z0,z1,z2]
  ·exact⟨_,rfl,x1.set3 P1 dcells32 _ _ _,below_set3 B1 (Nat.le_refl _) _ _ _⟩
 ·rw[if_pos (by omega),show max (a:Int) 1-1075=(a:Int)-1075 by omega]at HO
  obtain⟨F,hF⟩:∃F,f+4503599627370496=F:=⟨_,rfl⟩
  have w4:IntKind.u64.wrap ((f:Int)+4503599627370496)=(F:Int):=by rw[IntKind.wrap_u64];omega
  rw[hF]at HO
  clear hF
  have g2:((a:Int)==0)=false:=beq_eq_false_iff_ne.2 (by omega)
  clear hBB
  clear ha hf hA hsg hfl hfr hm hb53 e
  go_enter Tryz.func8,Tryz.ntmps8
  go_upto_region 1 with fail
  generalize w.alloc (.cells #[.bool false,.slice none 0 0,.int .i64 0] 27 (0,0))=w0 at*
  obtain⟨cP0,cP1,cP2,fP0,fP1,fP2,sP⟩:=P0.open3
  go_wp2_with
   (first
     |(go_at_call 20;(with_reducible refine(HO.out _ _ ?_).mono ?_);(exact rd_one (heap_alloc_new _ _) trivial);rintro e w1 ⟨vx1,rfl,x1,hb1⟩;have hb1':=(below_a hb1);have B1:=B0.trans (hb1'.mono B0.size);have P1:=P0.below hb1';clear P0;obtain⟨cP0_1,cP1_1,cP2_1,fP0_1,fP1_1,fP2_1,sP_1⟩:=P1.open3;obtain⟨ax1,kx1,rfl,-⟩:=x1.view;try simp only[List.length_nil]at x1)
     |fail)
  obtain⟨z0,z1,z2,-⟩:=(P1.set3 (.bool n') (.slice ax1 (digs DD B).length kx1) (.int .i64 EB)).open3
  refine bodyPost_ret (v:= .agg #[.bool n',.slice ax1 (digs DD B).length kx1,.int .i64 EB]) ?_ rfl ?_
  ·simp[results,Tryz.results8,go_sem,z0,z1,z2]
  ·exact⟨_,rfl,x1.set3 P1 dcells32 _ _ _,below_set3 B1 (Nat.le_refl _) _ _ _⟩
end Go.Proofs.YtffaefjkpipjnaaGreatDoor
