/- exp of 1 is decided at the first try: plainly. Conditions: none. -/
import Derived.Test.YtffaefjkpipjnaaGreatDoorPkB32
import Derived.Test.YtffaefjkpipjnaaGreatDoorPkB29
namespace Go.Proofs.YtffaefjkpipjnaaGreatDoor
set_option linter.unusedVariables false
set_option linter.unusedSimpArgs false
set_option maxRecDepth 100000
open Go.RowKit
theorem brk_grid {P:Nat}{F t:Int}(h:isBrk P F=true) (ht:topD ⟨false,P,F⟩=t) (t3:t≤1023):∃N:Nat,(P:Rat)*pw F=(N:Rat)*pw (unitB t-1):=by
 unfold isBrk at h
 rw[ht,if_neg (by omega)]at h
 have h1:=of_decide_eq_true h
 have hu:unitB t=max (t-52) (-1074):=rfl
 refine⟨P*2^(F-(unitB t-1)).toNat,?_⟩
 rw[Rat.natCast_mul,←pw_nat,Rat.mul_assoc,←pw_add]
 congr 2
 omega
theorem e_hi:XL 1 1 (3133965575612453543*pw (-60)):=by
 have hp:pw (-60)=1/1152921504606846976:=by
  have:=pw_neg 60
  have h2:=pw_nat 60
  rw[show((60:Nat):Int)=60 from rfl]at h2
  rw[h2]at this
  have e:((2^60:Nat):Rat)=1152921504606846976:=by decide+kernel
  rw[e]at this
  grind
 rw[hp]
 refine XL.of_series (by decide) (by decide) (fun K=>?_)
 have h1:=exA_bound (x:=1) (by decide) (by decide) (k:=22) (by decide) K
 have h2:exA 1 (22+1)+exT 1 22≤3133965575612453543*(1/1152921504606846976):=by decide+kernel
 grind
theorem e_lo:XL (-1) (3133965575612453542*pw (-60)) 1:=by
 have hp:pw (-60)=1/1152921504606846976:=by
  have:=pw_neg 60
  have h2:=pw_nat 60
  rw[show((60:Nat):Int)=60 from rfl]at h2
  rw[h2]at this
  have e:((2^60:Nat):Rat)=1152921504606846976:=by decide+kernel
  rw[e]at this
  grind
 rw[hp]
 refine XL.neg_series (K:=23) (by decide) (by decide+kernel) ?_ (by decide)
 decide+kernel
theorem cls_one:clsN ⟨false,1,0⟩=0:=by decide+kernel
theorem qv_one:qv ⟨false,1,0⟩=1:=by rw[qv_pos,pw_zero];exact Rat.mul_one _
theorem pw_pieces:pw (-60)=pw (-102)*4398046511104∧pw (-52)=pw (-60)*256:=by
 constructor
 ·rw[show(-60:Int)= -102+((42:Nat):Int)by decide,pw_add,pw_nat]
  congr 1
 ·rw[show(-52:Int)= -60+((8:Nat):Int)by decide,pw_add,pw_nat]
  congr 1
theorem one_ends {lo hi:Dn}{s:Nat}{k:Int}(h:ExpT ⟨false,1,0⟩ lo hi s k) (s1:128≤s) (s2:s≤8000):
 0<qv lo∧qv lo≤qv hi∧qv lo≤3133965575612453543*pw (-60)∧3133965575612453542*pw (-60)≤qv hi:=by
 obtain⟨L,H,-,-,-,o⟩:=h
 have x1:=o.x1
 have x2:=o.x2
 rw[qv_one]at x1 x2
 have a1:=exp_le x1 e_hi
 have a2:=exp_le e_lo x2
 have hp:=pw_pos k
 exact⟨by have:=o.low;grind,o.le,a1,a2⟩
theorem one_thin {lo hi:Dn}{k:Int}(h:ExpT ⟨false,1,0⟩ lo hi 128 k):qv hi-qv lo≤pw (-102):=by
 have b:=one_ends h (by decide) (by decide)
 obtain⟨L,H,-,-,-,o⟩:=h
 have hk:=(o.mid2 (by rw[qv_one];decide) (by rw[qv_one];decide) (by decide)).1
 have hlow:=o.low
 have hk2:k≤1:=by
  rcases Int.lt_or_le 1 k with h|h
  ·exfalso
   have h1:=pw_mono (show 2≤k by omega)
   have e2:pw 2=4:=by
    have:=pw_nat 2
    rw[show((2:Nat):Int)=2 from rfl]at this
    rw[this];decide+kernel
   have e60:(3133965575612453543:Rat)*pw (-60)<4:=by
    have:=pw_neg 60
    have h2:=pw_nat 60
    rw[show((60:Nat):Int)=60 from rfl]at h2
    rw[h2]at this
    have e:((2^60:Nat):Rat)=1152921504606846976:=by decide+kernel
    rw[e]at this
    grind
   grind
  ·exact h
 have ht:=o.thin
 have hm:8*128+131+3*k.natAbs*(2*128+128)≤33554432:=by omega
 have h1:=rq_le hm
 have h2:=pw_mono (show-(((128:Nat):Int)-k)≤-127 by omega)
 have hp:=pw_pos (-(((128:Nat):Int)-k))
 have h3:=Rat.mul_le_mul_of_nonneg_right h1 (Rat.le_of_lt hp)
 have h4:=Rat.mul_le_mul_of_nonneg_left h2 (show(0:Rat)≤((33554432:Nat):Rat)by decide)
 have h5:((33554432:Nat):Rat)*pw (-127)=pw (-102):=by
  rw[show(-102:Int)=((25:Nat):Int)+ -127 by decide,pw_add,pw_nat]
 rw[h5]at h4
 exact Rat.le_trans ht (Rat.le_trans h3 h4)
theorem one_found {lo hi:Dn}{k:Int}(h:ExpT ⟨false,1,0⟩ lo hi 128 k):∃b f,decG false lo hi 0=(true,b,f):=by
 obtain⟨b1,b2,b3,b4⟩:=one_ends h (by decide) (by decide)
 have ht:=one_thin h
 have hb:=h.bare
 obtain⟨p1,p2⟩:=pw_pieces
 have hp:=pw_pos (-102)
 have hp60:=pw_pos (-60)
 refine dec_found (hr_of b1 b2) hb.q1 hb.q2 (fun P F h1 h2 h3 h4=>?_)
 have g1:3133965575612453541*pw (-60)≤(P:Rat)*pw F:=by grind
 have g2:(P:Rat)*pw F≤3133965575612453544*pw (-60):=by grind
 have q60:pw (-60)*1152921504606846976=1:=by
  have:=pw_neg 60
  have h2:=pw_nat 60
  rw[show((60:Nat):Int)=60 from rfl]at h2
  rw[h2]at this
  have e:((2^60:Nat):Rat)=1152921504606846976:=by decide+kernel
  rw[e]at this
  exact this
 have e2:pw 2=4:=by
  have:=pw_nat 2
  rw[show((2:Nat):Int)=2 from rfl]at this
  rw[this];decide+kernel
 have htop:topD ⟨false,P,F⟩=1:=top_val (by rw[pw_one];grind) (by rw[show(1:Int)+1=2 by decide,e2];grind)
 obtain⟨N,hN⟩:=brk_grid h2 htop (by decide)
 have hu:unitB 1-1= -52:=by decide
 rw[hu,p2]at hN
 have c1:(3133965575612453541:Rat)≤(N:Rat)*256:=by
  rw[hN]at g1
  have:3133965575612453541*pw (-60)≤((N:Rat)*256)*pw (-60):=by grind
  exact Rat.le_of_mul_le_mul_right this hp60
 have c2:(N:Rat)*256≤3133965575612453544:=by
  rw[hN]at g2
  have:((N:Rat)*256)*pw (-60)≤3133965575612453544*pw (-60):=by grind
  exact Rat.le_of_mul_le_mul_right this hp60
 have d1:3133965575612453541≤N*256:=by
  refine rq_unle ?_
  rw[Rat.natCast_mul]
  exact c1
 have d2:N*256≤3133965575612453544:=by
  refine rq_unle ?_
  rw[Rat.natCast_mul]
  exact c2
 omega
theorem one_round {lo hi:Dn}{s b:Nat}{k f:Int}(h:ExpT ⟨false,1,0⟩ lo hi s k) (s1:128≤s) (s2:s≤8000) (hd:decG false lo hi 0=(true,b,f)):b=4613303445314885481∧f=1:=by
 obtain⟨b1,b2,b3,b4⟩:=one_ends h s1 s2
 obtain⟨-,⟨n1,n2⟩,i1,i2,z1,z2,t1,t2⟩:=dec_ends hd
 obtain⟨nl,M1,F1⟩:=lo
 obtain⟨nh,M2,F2⟩:=hi
 dsimp only at n1 n2 z1 z2 t1 t2 i1 i2
 subst n1 n2
 rw[qv_pos]at b3 b4
 have o3:End false 3133965575612453542 (-60) 0 4613303445314885481 1:=⟨by decide,by decide+kernel,by decide⟩
 have o4:End false 3133965575612453543 (-60) 0 4613303445314885481 1:=⟨by decide,by decide+kernel,by decide⟩
 have hf:f≠0:=toB_inexact (bareD_oddM h.bare.q1 z1) i1 t1
 exact end_uniq ⟨z1,t1,hf⟩ ⟨z2,t2,hf⟩ o3 o4 b3 b4
theorem exp_alive {b:Nat}{f st tr:Int}(h:ExpRes ⟨false,1,0⟩ 64 1024 0 b f st tr):b=4613303445314885481∧f=1∧st=0:=by
 rcases h with⟨h,-⟩|⟨-,l,hl,hr⟩
 ·exact absurd cls_one h
 have hl':PlanR 64 1024 [64,128,256,512,1024]:=⟨4,by decide,by decide,by decide,by decide⟩
 obtain rfl:=hl.uniq hl'
 rcases hr with⟨rfl,i,n,lo,hi,h9,hn,-,-,⟨k,ho⟩,-,hd⟩|⟨-,-,hF,-⟩
 ·have hn1:64≤n∧n≤1024:=by
   have:=List.mem_of_getElem? hn
   simp at this
   omega
  obtain⟨e1,e2⟩:=one_round ho (by omega) (by omega) hd
  exact⟨e1,e2,rfl⟩
 ·exfalso
  obtain⟨n,b',f',lo,hi,hn,⟨k,ho⟩,-,hd⟩:=hF 0 (by decide)
  injection hn with hn
  subst hn
  obtain⟨b2,f2,hd2⟩:=one_found ho
  rw[hd]at hd2
  cases hd2
open Go.RowKit Go.ChangeShapes Go.WideShapes
theorem rkind_n {w:World}{b:Nat}(hb:b<18446744073709551616):Calls Tryz.prog 7 #[L64 b] w (fun e w'=>e= .returned (.int .i64 (kindN b:Int))∧w'=w):=by
 obtain⟨r,hr⟩:∃r,kindN b=r:=⟨_,rfl⟩
 rw[hr]
 unfold kindN fldN frcN at hr
 obtain⟨q,hq⟩:∃q,b/4503599627370496=q:=⟨_,rfl⟩
 have hq2:(b:Int)/4503599627370496=(q:Int):=by omega
 have hwq:IntKind.u64.wrap (q:Int)=(q:Int):=by rw[IntKind.wrap_u64];omega
 obtain⟨f,hf⟩:∃f,q%2048=f:=⟨_,rfl⟩
 have hf2:(q:Int)%2048=(f:Int):=by omega
 obtain⟨g,hg⟩:∃g,b%4503599627370496=g:=⟨_,rfl⟩
 have hg2:(b:Int)%4503599627370496=(g:Int):=by omega
 rw[hq,hf,hg]at hr
 clear hb
 by_cases c1:f=0
 ·have d1t0:((f:Int)==0)=true:=beq_iff_eq.2 (by omega)
  have d1t1:(f==0)=true:=beq_iff_eq.2 (by omega)
  by_cases c2:g=0
  ·have d2t0:((g:Int)==0)=true:=beq_iff_eq.2 (by omega)
   have d2t1:(g==0)=true:=beq_iff_eq.2 (by omega)
   obtain rfl:0=r:=by rw[←hr,if_pos c1,if_pos c2]
   clear c1 c2 hr
   go_enter Tryz.func7,Tryz.ntmps7
   go_wp2
   go_ret
   exact⟨rfl,rfl⟩
  ·have d2f0:((g:Int)==0)=false:=beq_false_of_ne (by omega)
   have d2f1:(g==0)=false:=beq_false_of_ne (by omega)
   obtain rfl:1=r:=by rw[←hr,if_pos c1,if_neg c2]
   clear c1 c2 hr
   go_enter Tryz.func7,Tryz.ntmps7
   go_wp2
   go_ret
   exact⟨rfl,rfl⟩
 ·have d1f0:((f:Int)==0)=false:=beq_false_of_ne (by omega)
  have d1f1:(f==0)=false:=beq_false_of_ne (by omega)
  by_cases c3:f<2047
  ·have d3t0:decide ((f:Int)<2047)=true:=decide_eq_true (by omega)
   have d3t1:decide (f<2047)=true:=decide_eq_true (by omega)
   obtain rfl:2=r:=by rw[←hr,if_neg c1,if_pos c3]
   clear c1 c3 hr
   go_enter Tryz.func7,Tryz.ntmps7
   go_wp2
   go_ret
   exact⟨rfl,rfl⟩
  ·have d3f0:decide ((f:Int)<2047)=false:=decide_eq_false (by omega)
   have d3f1:decide (f<2047)=false:=decide_eq_false (by omega)
   by_cases c4:g=0
   ·have d4t0:((g:Int)==0)=true:=beq_iff_eq.2 (by omega)
    have d4t1:(g==0)=true:=beq_iff_eq.2 (by omega)
    obtain rfl:3=r:=by rw[←hr,if_neg c1,if_neg c3,if_pos c4]
    clear c1 c3 c4 hr
    go_enter Tryz.func7,Tryz.ntmps7
    go_wp2
    go_ret
    exact⟨rfl,rfl⟩
   ·have d4f0:((g:Int)==0)=false:=beq_false_of_ne (by omega)
    have d4f1:(g==0)=false:=beq_false_of_ne (by omega)
    by_cases c5:2251799813685248≤g
    ·have d5t0:decide ((2251799813685248:Int)≤g)=true:=decide_eq_true (by omega)
     have d5t1:decide (2251799813685248≤g)=true:=decide_eq_true (by omega)
     obtain rfl:4=r:=by rw[←hr,if_neg c1,if_neg c3,if_neg c4,if_pos c5]
     clear c1 c3 c4 c5 hr
     go_enter Tryz.func7,Tryz.ntmps7
     go_wp2
     go_ret
     exact⟨rfl,rfl⟩
    ·have d5f0:decide ((2251799813685248:Int)≤g)=false:=decide_eq_false (by omega)
     have d5f1:decide (2251799813685248≤g)=false:=decide_eq_false (by omega)
     obtain rfl:5=r:=by rw[←hr,if_neg c1,if_neg c3,if_neg c4,if_neg c5]
     clear c1 c3 c4 c5 hr
     go_enter Tryz.func7,Tryz.ntmps7
     go_wp2
     go_ret
     exact⟨rfl,rfl⟩
theorem rearly_5 {w:World}:Calls Tryz.prog 39 #[.int .i64 5] w (fun e w'=>e= .returned (.agg #[.int .u64 9221120237041090560,.int .i64 16])∧Below w.heap.size w w'):=by
 go_enter Tryz.func39,Tryz.ntmps39
 go_wp2
 obtain⟨z0,z1,-⟩:=(blk_new (w:=w) (T:=50) (c:= #[.int .u64 9221120237041090560,.int .i64 16])).open2
 refine bodyPost_ret (v:= .agg #[.int .u64 9221120237041090560,.int .i64 16]) (by simp[results,Tryz.results39,go_sem,z0,z1]) rfl ⟨rfl,below_alloc _ _⟩
theorem rearly_4 {w:World}:Calls Tryz.prog 39 #[.int .i64 4] w (fun e w'=>e= .returned (.agg #[.int .u64 9221120237041090560,.int .i64 0])∧Below w.heap.size w w'):=by
 go_enter Tryz.func39,Tryz.ntmps39
 go_wp2
 obtain⟨z0,z1,-⟩:=(blk_new (w:=w) (T:=50) (c:= #[.int .u64 9221120237041090560,.int .i64 0])).open2
 refine bodyPost_ret (v:= .agg #[.int .u64 9221120237041090560,.int .i64 0]) (by simp[results,Tryz.results39,go_sem,z0,z1]) rfl ⟨rfl,below_alloc _ _⟩
theorem plain_n {w:World}:Calls Tryz.prog 10 #[] w (fun e w'=>e= .returned (.agg #[.int .i64 0,.int .i64 64,.int .i64 1024,.pointer none])∧Below w.heap.size w w'):=by
 go_enter Tryz.func10,Tryz.ntmps10
 go_wp2
 obtain⟨z0,z1,z2,z3,-⟩:=(blk_new (w:=w) (T:=33) (c:= #[.int .i64 0,.int .i64 64,.int .i64 1024,.pointer none])).open4
 refine bodyPost_ret (v:= .agg #[.int .i64 0,.int .i64 64,.int .i64 1024,.pointer none]) (by simp[results,Tryz.results10,go_sem,z0,z1,z2,z3]) rfl ⟨rfl,below_alloc _ _⟩
def planB (a b:Int):Bool:=decide (32≤a)&&decide (a≤b)&&decide (64≤b)&&decide (b≤8192)
theorem planB_iff {a b:Int}:planB a b=true↔planOk a b:=by unfold planB planOk;simp;omega
def rightW (dir fr pt:Int):Bool:=decide (0≤dir)&&decide (dir≤3)&&planB fr pt
def farW (pt:Int):Bool:=decide (1024<pt)&&decide (pt≤8192)
def spec31 (k x:Nat):Nat×Int×Bool:=
 if 3<kindN x then(9221120237041090560,if kindN x=5 then 16 else 0,true)
 else if k=0 then(if kindN x=0 then(4607182418800017408,0,true)else if kindN x=3 then(if negN x=true then(0,0,true)else(x,0,true))else(x,0,false))
 else if k=1 then(if kindN x=0 then(18442240474082181120,8,true)else if negN x=true then(9221120237041090560,16,true)else if x=4607182418800017408 then(0,0,true)else if kindN x=3 then(x,0,true)else(x,0,false))
 else(if kindN x=3 then(if negN x=true then(13830554455654793216,0,true)else(x,0,true))else if kindN x=0 then(x,0,true)else(x,0,false))
theorem kind_le (x:Nat):kindN x≤5:=by
 unfold kindN
 split
 ·split<;>omega
 ·split
  ·omega
  ·split
   ·omega
   ·split<;>omega
theorem rspec0_n {w:World}{x:Nat}(hx:x<18446744073709551616):Calls Tryz.prog 18 #[.int .i64 0,L64 x] w (fun e w'=>e= .returned (.tuple #[.agg #[L64 (spec31 0 x).1,.int .i64 (spec31 0 x).2.1],.bool (spec31 0 x).2.2])∧Below w.heap.size w w'):=by
 have HK:=Lib.hid (fun w=>rkind_n (w:=w) hx)
 have hk5:=kind_le x
 obtain⟨r,hr⟩:∃r,spec31 0 x=r:=⟨_,rfl⟩
 rw[hr]
 unfold spec31 at hr
 obtain⟨kk,hkk⟩:∃k,kindN x=k:=⟨_,rfl⟩
 rw[hkk]at hr HK hk5
 obtain⟨ng,hng⟩:∃b,negN x=b:=⟨_,rfl⟩
 rw[hng]at hr
 unfold negN at hng
 have hng2:decide ((9223372036854775808:Int)≤(x:Int))=ng:=by
  rw[←hng]
  by_cases c:9223372036854775808≤x
  ·rw[decide_eq_true c,decide_eq_true (by omega)]
  ·rw[decide_eq_false c,decide_eq_false (by omega)]
 have R0:=blk_new (w:=w) (T:=50) (c:= #[.int .u64 0,.int .i64 0])
 have B0:=below_alloc w (.cells #[.int .u64 0,.int .i64 0] 50 (0,0))
 clear hkk
 by_cases c1:3<kk
 ·have d1t0:decide ((3:Int)<kk)=true:=decide_eq_true (by omega)
  have d1t1:decide (3<kk)=true:=decide_eq_true (by omega)
  by_cases c2:kk=5
  ·have d2t0:((kk:Int)==5)=true:=beq_iff_eq.2 (by omega)
   have d2t1:(kk==5)=true:=beq_iff_eq.2 (by omega)
   obtain rfl:kk=5:=by omega
   have HE:=Lib.hid (fun w=>rearly_5 (w:=w))
   obtain rfl:(9221120237041090560,16,true)=r:=by rw[←hr];simp[*]
   clear c1 c2 hr hx
   go_enter Tryz.func18,Tryz.ntmps18
   go_wp2_with (first|(go_at_call 7;(with_reducible refine(HK.out _).mono ?_);rintro e w1 ⟨rfl,rfl⟩)|(go_at_call 39;(with_reducible refine(HE.out _).mono ?_);rintro e w2 ⟨rfl,hb2⟩;have R2:=R0.below hb2;have B2:=B0.trans (hb2.mono B0.size);have ro:=R2.open2)|fail)
   obtain⟨z0,z1,-⟩:=(R2.set2 (.int .u64 9221120237041090560) (.int .i64 16)).open2
   refine bodyPost_ret (v:= .tuple #[.agg #[.int .u64 9221120237041090560,.int .i64 16],.bool true]) (by simp[results,Tryz.results18,go_sem,z0,z1]) rfl ⟨rfl,(bel_s1 (bel_s1 B2 (by omega) _ _) (by omega) _ _)⟩
  ·have d2f0:((kk:Int)==5)=false:=beq_false_of_ne (by omega)
   have d2f1:(kk==5)=false:=beq_false_of_ne (by omega)
   obtain rfl:kk=4:=by omega
   have HE:=Lib.hid (fun w=>rearly_4 (w:=w))
   obtain rfl:(9221120237041090560,0,true)=r:=by rw[←hr];simp[*]
   clear c1 c2 hr hx
   go_enter Tryz.func18,Tryz.ntmps18
   go_wp2_with (first|(go_at_call 7;(with_reducible refine(HK.out _).mono ?_);rintro e w1 ⟨rfl,rfl⟩)|(go_at_call 39;(with_reducible refine(HE.out _).mono ?_);rintro e w2 ⟨rfl,hb2⟩;have R2:=R0.below hb2;have B2:=B0.trans (hb2.mono B0.size);have ro:=R2.open2)|fail)
   obtain⟨z0,z1,-⟩:=(R2.set2 (.int .u64 9221120237041090560) (.int .i64 0)).open2
   refine bodyPost_ret (v:= .tuple #[.agg #[.int .u64 9221120237041090560,.int .i64 0],.bool true]) (by simp[results,Tryz.results18,go_sem,z0,z1]) rfl ⟨rfl,(bel_s1 (bel_s1 B2 (by omega) _ _) (by omega) _ _)⟩
 ·have d1f0:decide ((3:Int)<kk)=false:=decide_eq_false (by omega)
  have d1f1:decide (3<kk)=false:=decide_eq_false (by omega)
  by_cases c3:kk=0
  ·have d3t0:((kk:Int)==0)=true:=beq_iff_eq.2 (by omega)
   have d3t1:(kk==0)=true:=beq_iff_eq.2 (by omega)
   obtain rfl:(4607182418800017408,0,true)=r:=by rw[←hr];simp[*]
   clear c1 c3 hr hx
   go_enter Tryz.func18,Tryz.ntmps18
   go_wp2_with (first|(go_at_call 7;(with_reducible refine(HK.out _).mono ?_);rintro e w1 ⟨rfl,rfl⟩)|fail)
   obtain⟨z0,z1,-⟩:=(blk_new (w:=w) (T:=50) (c:= #[.int .u64 4607182418800017408,.int .i64 0])).open2
   refine bodyPost_ret (v:= .tuple #[.agg #[.int .u64 4607182418800017408,.int .i64 0],.bool true]) (by simp[results,Tryz.results18,go_sem,z0,z1]) rfl ⟨rfl,(below_alloc _ _)⟩
  ·have d3f0:((kk:Int)==0)=false:=beq_false_of_ne (by omega)
   have d3f1:(kk==0)=false:=beq_false_of_ne (by omega)
   by_cases c4:kk=3
   ·have d4t0:((kk:Int)==3)=true:=beq_iff_eq.2 (by omega)
    have d4t1:(kk==3)=true:=beq_iff_eq.2 (by omega)
    by_cases c5:ng=true
    ·have d5t0:ng=true:=by assumption
     obtain rfl:(0,0,true)=r:=by rw[←hr];simp[*]
     clear c1 c3 c4 c5 hr hx
     go_enter Tryz.func18,Tryz.ntmps18
     go_wp2_with (first|(go_at_call 7;(with_reducible refine(HK.out _).mono ?_);rintro e w1 ⟨rfl,rfl⟩)|fail)
     obtain⟨z0,z1,-⟩:=(blk_new (w:=w) (T:=50) (c:= #[.int .u64 0,.int .i64 0])).open2
     refine bodyPost_ret (v:= .tuple #[.agg #[.int .u64 0,.int .i64 0],.bool true]) (by simp[results,Tryz.results18,go_sem,z0,z1]) rfl ⟨rfl,(below_alloc _ _)⟩
    ·have d5f0:ng=false:=by cases ng;rfl;exact absurd rfl (by assumption)
     obtain rfl:(x,0,true)=r:=by rw[←hr];simp[*]
     clear c1 c3 c4 c5 hr hx
     go_enter Tryz.func18,Tryz.ntmps18
     go_wp2_with (first|(go_at_call 7;(with_reducible refine(HK.out _).mono ?_);rintro e w1 ⟨rfl,rfl⟩)|fail)
     obtain⟨z0,z1,-⟩:=(blk_new (w:=w) (T:=50) (c:= #[L64 x,.int .i64 0])).open2
     refine bodyPost_ret (v:= .tuple #[.agg #[L64 x,.int .i64 0],.bool true]) (by simp[results,Tryz.results18,go_sem,z0,z1]) rfl ⟨rfl,(below_alloc _ _)⟩
   ·have d4f0:((kk:Int)==3)=false:=beq_false_of_ne (by omega)
    have d4f1:(kk==3)=false:=beq_false_of_ne (by omega)
    obtain rfl:(x,0,false)=r:=by rw[←hr];simp[*]
    clear c1 c3 c4 hr hx
    go_enter Tryz.func18,Tryz.ntmps18
    go_wp2_with (first|(go_at_call 7;(with_reducible refine(HK.out _).mono ?_);rintro e w1 ⟨rfl,rfl⟩)|fail)
    obtain⟨z0,z1,-⟩:=(blk_new (w:=w) (T:=50) (c:= #[L64 x,.int .i64 0])).open2
    refine bodyPost_ret (v:= .tuple #[.agg #[L64 x,.int .i64 0],.bool false]) (by simp[results,Tryz.results18,go_sem,z0,z1]) rfl ⟨rfl,(below_alloc _ _)⟩
theorem rspec1_n {w:World}{x:Nat}(hx:x<18446744073709551616):Calls Tryz.prog 18 #[.int .i64 1,L64 x] w (fun e w'=>e= .returned (.tuple #[.agg #[L64 (spec31 1 x).1,.int .i64 (spec31 1 x).2.1],.bool (spec31 1 x).2.2])∧Below w.heap.size w w'):=by
 have HK:=Lib.hid (fun w=>rkind_n (w:=w) hx)
 have hk5:=kind_le x
 obtain⟨r,hr⟩:∃r,spec31 1 x=r:=⟨_,rfl⟩
 rw[hr]
 unfold spec31 at hr
 obtain⟨kk,hkk⟩:∃k,kindN x=k:=⟨_,rfl⟩
 rw[hkk]at hr HK hk5
 obtain⟨ng,hng⟩:∃b,negN x=b:=⟨_,rfl⟩
 rw[hng]at hr
 unfold negN at hng
 have hng2:decide ((9223372036854775808:Int)≤(x:Int))=ng:=by
  rw[←hng]
  by_cases c:9223372036854775808≤x
  ·rw[decide_eq_true c,decide_eq_true (by omega)]
  ·rw[decide_eq_false c,decide_eq_false (by omega)]
 have R0:=blk_new (w:=w) (T:=50) (c:= #[.int .u64 0,.int .i64 0])
 have B0:=below_alloc w (.cells #[.int .u64 0,.int .i64 0] 50 (0,0))
 clear hkk
 by_cases c6:3<kk
 ·have d6t0:decide ((3:Int)<kk)=true:=decide_eq_true (by omega)
  have d6t1:decide (3<kk)=true:=decide_eq_true (by omega)
  by_cases c7:kk=5
  ·have d7t0:((kk:Int)==5)=true:=beq_iff_eq.2 (by omega)
   have d7t1:(kk==5)=true:=beq_iff_eq.2 (by omega)
   obtain rfl:kk=5:=by omega
   have HE:=Lib.hid (fun w=>rearly_5 (w:=w))
   obtain rfl:(9221120237041090560,16,true)=r:=by rw[←hr];simp[*]
   clear c6 c7 hr hx
   go_enter Tryz.func18,Tryz.ntmps18
   go_wp2_with (first|(go_at_call 7;(with_reducible refine(HK.out _).mono ?_);rintro e w1 ⟨rfl,rfl⟩)|(go_at_call 39;(with_reducible refine(HE.out _).mono ?_);rintro e w2 ⟨rfl,hb2⟩;have R2:=R0.below hb2;have B2:=B0.trans (hb2.mono B0.size);have ro:=R2.open2)|fail)
   obtain⟨z0,z1,-⟩:=(R2.set2 (.int .u64 9221120237041090560) (.int .i64 16)).open2
   refine bodyPost_ret (v:= .tuple #[.agg #[.int .u64 9221120237041090560,.int .i64 16],.bool true]) (by simp[results,Tryz.results18,go_sem,z0,z1]) rfl ⟨rfl,(bel_s1 (bel_s1 B2 (by omega) _ _) (by omega) _ _)⟩
  ·have d7f0:((kk:Int)==5)=false:=beq_false_of_ne (by omega)
   have d7f1:(kk==5)=false:=beq_false_of_ne (by omega)
   obtain rfl:kk=4:=by omega
   have HE:=Lib.hid (fun w=>rearly_4 (w:=w))
   obtain rfl:(9221120237041090560,0,true)=r:=by rw[←hr];simp[*]
   clear c6 c7 hr hx
   go_enter Tryz.func18,Tryz.ntmps18
   go_wp2_with (first|(go_at_call 7;(with_reducible refine(HK.out _).mono ?_);rintro e w1 ⟨rfl,rfl⟩)|(go_at_call 39;(with_reducible refine(HE.out _).mono ?_);rintro e w2 ⟨rfl,hb2⟩;have R2:=R0.below hb2;have B2:=B0.trans (hb2.mono B0.size);have ro:=R2.open2)|fail)
   obtain⟨z0,z1,-⟩:=(R2.set2 (.int .u64 9221120237041090560) (.int .i64 0)).open2
   refine bodyPost_ret (v:= .tuple #[.agg #[.int .u64 9221120237041090560,.int .i64 0],.bool true]) (by simp[results,Tryz.results18,go_sem,z0,z1]) rfl ⟨rfl,(bel_s1 (bel_s1 B2 (by omega) _ _) (by omega) _ _)⟩
 ·have d6f0:decide ((3:Int)<kk)=false:=decide_eq_false (by omega)
  have d6f1:decide (3<kk)=false:=decide_eq_false (by omega)
  by_cases c8:kk=0
  ·have d8t0:((kk:Int)==0)=true:=beq_iff_eq.2 (by omega)
   have d8t1:(kk==0)=true:=beq_iff_eq.2 (by omega)
   obtain rfl:(18442240474082181120,8,true)=r:=by rw[←hr];simp[*]
   clear c6 c8 hr hx
   go_enter Tryz.func18,Tryz.ntmps18
   go_wp2_with (first|(go_at_call 7;(with_reducible refine(HK.out _).mono ?_);rintro e w1 ⟨rfl,rfl⟩)|fail)
   obtain⟨z0,z1,-⟩:=(blk_new (w:=w) (T:=50) (c:= #[.int .u64 18442240474082181120,.int .i64 8])).open2
   refine bodyPost_ret (v:= .tuple #[.agg #[.int .u64 18442240474082181120,.int .i64 8],.bool true]) (by simp[results,Tryz.results18,go_sem,z0,z1]) rfl ⟨rfl,(below_alloc _ _)⟩
  ·have d8f0:((kk:Int)==0)=false:=beq_false_of_ne (by omega)
   have d8f1:(kk==0)=false:=beq_false_of_ne (by omega)
   by_cases c9:ng=true
   ·have d9t0:ng=true:=by assumption
    obtain rfl:(9221120237041090560,16,true)=r:=by rw[←hr];simp[*]
    clear c6 c8 c9 hr hx
    go_enter Tryz.func18,Tryz.ntmps18
    go_wp2_with (first|(go_at_call 7;(with_reducible refine(HK.out _).mono ?_);rintro e w1 ⟨rfl,rfl⟩)|fail)
    obtain⟨z0,z1,-⟩:=(blk_new (w:=w) (T:=50) (c:= #[.int .u64 9221120237041090560,.int .i64 16])).open2
    refine bodyPost_ret (v:= .tuple #[.agg #[.int .u64 9221120237041090560,.int .i64 16],.bool true]) (by simp[results,Tryz.results18,go_sem,z0,z1]) rfl ⟨rfl,(below_alloc _ _)⟩
   ·have d9f0:ng=false:=by cases ng;rfl;exact absurd rfl (by assumption)
    by_cases c10:x=4607182418800017408
    ·have d10t0:((x:Int)==4607182418800017408)=true:=beq_iff_eq.2 (by omega)
     have d10t1:(x==4607182418800017408)=true:=beq_iff_eq.2 (by omega)
     obtain rfl:(0,0,true)=r:=by rw[←hr];simp[*]
     clear c6 c8 c9 c10 hr hx
     go_enter Tryz.func18,Tryz.ntmps18
     go_wp2_with (first|(go_at_call 7;(with_reducible refine(HK.out _).mono ?_);rintro e w1 ⟨rfl,rfl⟩)|fail)
     obtain⟨z0,z1,-⟩:=(blk_new (w:=w) (T:=50) (c:= #[.int .u64 0,.int .i64 0])).open2
     refine bodyPost_ret (v:= .tuple #[.agg #[.int .u64 0,.int .i64 0],.bool true]) (by simp[results,Tryz.results18,go_sem,z0,z1]) rfl ⟨rfl,(below_alloc _ _)⟩
    ·have d10f0:((x:Int)==4607182418800017408)=false:=beq_false_of_ne (by omega)
     have d10f1:(x==4607182418800017408)=false:=beq_false_of_ne (by omega)
     by_cases c11:kk=3
     ·have d11t0:((kk:Int)==3)=true:=beq_iff_eq.2 (by omega)
      have d11t1:(kk==3)=true:=beq_iff_eq.2 (by omega)
      obtain rfl:(x,0,true)=r:=by rw[←hr];simp[*]
      clear c6 c8 c9 c10 c11 hr hx
      go_enter Tryz.func18,Tryz.ntmps18
      go_wp2_with (first|(go_at_call 7;(with_reducible refine(HK.out _).mono ?_);rintro e w1 ⟨rfl,rfl⟩)|fail)
      obtain⟨z0,z1,-⟩:=(blk_new (w:=w) (T:=50) (c:= #[L64 x,.int .i64 0])).open2
      refine bodyPost_ret (v:= .tuple #[.agg #[L64 x,.int .i64 0],.bool true]) (by simp[results,Tryz.results18,go_sem,z0,z1]) rfl ⟨rfl,(below_alloc _ _)⟩
     ·have d11f0:((kk:Int)==3)=false:=beq_false_of_ne (by omega)
      have d11f1:(kk==3)=false:=beq_false_of_ne (by omega)
      obtain rfl:(x,0,false)=r:=by rw[←hr];simp[*]
      clear c6 c8 c9 c10 c11 hr hx
      go_enter Tryz.func18,Tryz.ntmps18
      go_wp2_with (first|(go_at_call 7;(with_reducible refine(HK.out _).mono ?_);rintro e w1 ⟨rfl,rfl⟩)|fail)
      obtain⟨z0,z1,-⟩:=(blk_new (w:=w) (T:=50) (c:= #[L64 x,.int .i64 0])).open2
      refine bodyPost_ret (v:= .tuple #[.agg #[L64 x,.int .i64 0],.bool false]) (by simp[results,Tryz.results18,go_sem,z0,z1]) rfl ⟨rfl,(below_alloc _ _)⟩
theorem rspec2_n {w:World}{x:Nat}(hx:x<18446744073709551616):Calls Tryz.prog 18 #[.int .i64 2,L64 x] w (fun e w'=>e= .returned (.tuple #[.agg #[L64 (spec31 2 x).1,.int .i64 (spec31 2 x).2.1],.bool (spec31 2 x).2.2])∧Below w.heap.size w w'):=by
 have HK:=Lib.hid (fun w=>rkind_n (w:=w) hx)
 have hk5:=kind_le x
 obtain⟨r,hr⟩:∃r,spec31 2 x=r:=⟨_,rfl⟩
 rw[hr]
 unfold spec31 at hr
 obtain⟨kk,hkk⟩:∃k,kindN x=k:=⟨_,rfl⟩
 rw[hkk]at hr HK hk5
 obtain⟨ng,hng⟩:∃b,negN x=b:=⟨_,rfl⟩
 rw[hng]at hr
 unfold negN at hng
 have hng2:decide ((9223372036854775808:Int)≤(x:Int))=ng:=by
  rw[←hng]
  by_cases c:9223372036854775808≤x
  ·rw[decide_eq_true c,decide_eq_true (by omega)]
  ·rw[decide_eq_false c,decide_eq_false (by omega)]
 have R0:=blk_new (w:=w) (T:=50) (c:= #[.int .u64 0,.int .i64 0])
 have B0:=below_alloc w (.cells #[.int .u64 0,.int .i64 0] 50 (0,0))
 clear hkk
 by_cases c12:3<kk
 ·have d12t0:decide ((3:Int)<kk)=true:=decide_eq_true (by omega)
  have d12t1:decide (3<kk)=true:=decide_eq_true (by omega)
  by_cases c13:kk=5
  ·have d13t0:((kk:Int)==5)=true:=beq_iff_eq.2 (by omega)
   have d13t1:(kk==5)=true:=beq_iff_eq.2 (by omega)
   obtain rfl:kk=5:=by omega
   have HE:=Lib.hid (fun w=>rearly_5 (w:=w))
   obtain rfl:(9221120237041090560,16,true)=r:=by rw[←hr];simp[*]
   clear c12 c13 hr hx
   go_enter Tryz.func18,Tryz.ntmps18
   go_wp2_with (first|(go_at_call 7;(with_reducible refine(HK.out _).mono ?_);rintro e w1 ⟨rfl,rfl⟩)|(go_at_call 39;(with_reducible refine(HE.out _).mono ?_);rintro e w2 ⟨rfl,hb2⟩;have R2:=R0.below hb2;have B2:=B0.trans (hb2.mono B0.size);have ro:=R2.open2)|fail)
   obtain⟨z0,z1,-⟩:=(R2.set2 (.int .u64 9221120237041090560) (.int .i64 16)).open2
   refine bodyPost_ret (v:= .tuple #[.agg #[.int .u64 9221120237041090560,.int .i64 16],.bool true]) (by simp[results,Tryz.results18,go_sem,z0,z1]) rfl ⟨rfl,(bel_s1 (bel_s1 B2 (by omega) _ _) (by omega) _ _)⟩
  ·have d13f0:((kk:Int)==5)=false:=beq_false_of_ne (by omega)
   have d13f1:(kk==5)=false:=beq_false_of_ne (by omega)
   obtain rfl:kk=4:=by omega
   have HE:=Lib.hid (fun w=>rearly_4 (w:=w))
   obtain rfl:(9221120237041090560,0,true)=r:=by rw[←hr];simp[*]
   clear c12 c13 hr hx
   go_enter Tryz.func18,Tryz.ntmps18
   go_wp2_with (first|(go_at_call 7;(with_reducible refine(HK.out _).mono ?_);rintro e w1 ⟨rfl,rfl⟩)|(go_at_call 39;(with_reducible refine(HE.out _).mono ?_);rintro e w2 ⟨rfl,hb2⟩;have R2:=R0.below hb2;have B2:=B0.trans (hb2.mono B0.size);have ro:=R2.open2)|fail)
   obtain⟨z0,z1,-⟩:=(R2.set2 (.int .u64 9221120237041090560) (.int .i64 0)).open2
   refine bodyPost_ret (v:= .tuple #[.agg #[.int .u64 9221120237041090560,.int .i64 0],.bool true]) (by simp[results,Tryz.results18,go_sem,z0,z1]) rfl ⟨rfl,(bel_s1 (bel_s1 B2 (by omega) _ _) (by omega) _ _)⟩
 ·have d12f0:decide ((3:Int)<kk)=false:=decide_eq_false (by omega)
  have d12f1:decide (3<kk)=false:=decide_eq_false (by omega)
  by_cases c14:kk=3
  ·have d14t0:((kk:Int)==3)=true:=beq_iff_eq.2 (by omega)
   have d14t1:(kk==3)=true:=beq_iff_eq.2 (by omega)
   have d14t2:((kk:Int)==0)=false:=beq_false_of_ne (by omega)
   have d14t3:(kk==0)=false:=beq_false_of_ne (by omega)
   by_cases c15:ng=true
   ·have d15t0:ng=true:=by assumption
    obtain rfl:(13830554455654793216,0,true)=r:=by rw[←hr];simp[*]
    clear c12 c14 c15 hr hx
    go_enter Tryz.func18,Tryz.ntmps18
    go_wp2_with (first|(go_at_call 7;(with_reducible refine(HK.out _).mono ?_);rintro e w1 ⟨rfl,rfl⟩)|fail)
    obtain⟨z0,z1,-⟩:=(blk_new (w:=w) (T:=50) (c:= #[.int .u64 13830554455654793216,.int .i64 0])).open2
    refine bodyPost_ret (v:= .tuple #[.agg #[.int .u64 13830554455654793216,.int .i64 0],.bool true]) (by simp[results,Tryz.results18,go_sem,z0,z1]) rfl ⟨rfl,(below_alloc _ _)⟩
   ·have d15f0:ng=false:=by cases ng;rfl;exact absurd rfl (by assumption)
    obtain rfl:(x,0,true)=r:=by rw[←hr];simp[*]
    clear c12 c14 c15 hr hx
    go_enter Tryz.func18,Tryz.ntmps18
    go_wp2_with (first|(go_at_call 7;(with_reducible refine(HK.out _).mono ?_);rintro e w1 ⟨rfl,rfl⟩)|fail)
    obtain⟨z0,z1,-⟩:=(blk_new (w:=w) (T:=50) (c:= #[L64 x,.int .i64 0])).open2
    refine bodyPost_ret (v:= .tuple #[.agg #[L64 x,.int .i64 0],.bool true]) (by simp[results,Tryz.results18,go_sem,z0,z1]) rfl ⟨rfl,(below_alloc _ _)⟩
  ·have d14f0:((kk:Int)==3)=false:=beq_false_of_ne (by omega)
   have d14f1:(kk==3)=false:=beq_false_of_ne (by omega)
   by_cases c16:kk=0
   ·have d16t0:((kk:Int)==0)=true:=beq_iff_eq.2 (by omega)
    have d16t1:(kk==0)=true:=beq_iff_eq.2 (by omega)
    obtain rfl:(x,0,true)=r:=by rw[←hr];simp[*]
    clear c12 c14 c16 hr hx
    go_enter Tryz.func18,Tryz.ntmps18
    go_wp2_with (first|(go_at_call 7;(with_reducible refine(HK.out _).mono ?_);rintro e w1 ⟨rfl,rfl⟩)|fail)
    obtain⟨z0,z1,-⟩:=(blk_new (w:=w) (T:=50) (c:= #[L64 x,.int .i64 0])).open2
    refine bodyPost_ret (v:= .tuple #[.agg #[L64 x,.int .i64 0],.bool true]) (by simp[results,Tryz.results18,go_sem,z0,z1]) rfl ⟨rfl,(below_alloc _ _)⟩
   ·have d16f0:((kk:Int)==0)=false:=beq_false_of_ne (by omega)
    have d16f1:(kk==0)=false:=beq_false_of_ne (by omega)
    obtain rfl:(x,0,false)=r:=by rw[←hr];simp[*]
    clear c12 c14 c16 hr hx
    go_enter Tryz.func18,Tryz.ntmps18
    go_wp2_with (first|(go_at_call 7;(with_reducible refine(HK.out _).mono ?_);rintro e w1 ⟨rfl,rfl⟩)|fail)
    obtain⟨z0,z1,-⟩:=(blk_new (w:=w) (T:=50) (c:= #[L64 x,.int .i64 0])).open2
    refine bodyPost_ret (v:= .tuple #[.agg #[L64 x,.int .i64 0],.bool false]) (by simp[results,Tryz.results18,go_sem,z0,z1]) rfl ⟨rfl,(below_alloc _ _)⟩
end Go.Proofs.YtffaefjkpipjnaaGreatDoor

namespace Go.Proofs.YtffaefjkpipjnaaGreatDoor
set_option maxRecDepth 100000
open Go.RowKit Go.ChangeShapes Go.WideShapes
set_option linter.unusedVariables false
set_option linter.unusedSimpArgs false
theorem dyB_one:dyB 4607182418800017408=⟨false,1,0⟩:=by
 have h:low2 4503599627370496=52:=low2_uniq (m:=0) (by decide)
 unfold dyB
 rw[show negN 4607182418800017408=false by decide,show mntN 4607182418800017408=4503599627370496 by decide,show expN 4607182418800017408= -52 by decide,bareD_pos (show(⟨false,4503599627370496,-52⟩:Dn).m≠0 by decide)]
 dsimp only
 rw[h]
 rfl
theorem exp_one {w:World}(hT:Tab w):Calls Tryz.prog 11 #[.int .u64 4607182418800017408,.agg #[.int .i64 0,.int .i64 64,.int .i64 1024,.pointer none]] w (fun r w'=>∃tr,r= .returned (.tuple #[.agg #[.int .u64 4613303445314885481,.int .u8 1,.int .i64 0],.int .i64 tr,.int .i64 0])∧Below w.heap.size w w'):=by
 refine(show Calls Tryz.prog 11 #[.int .u64 4607182418800017408,.agg #[.int .i64 0,.int .i64 64,.int .i64 1024,.pointer none]] w _ from eexp_fin (w:=w) (x:=4607182418800017408) (fr:=64) (pt:=1024) (dir:=0) (by decide) (by decide) (by decide) (by decide) (by decide) (by decide) (by decide) hT (by decide) (by decide)).mono ?_
 rintro r w' ⟨b,f,st,tr,rfl,h,hb⟩
 rw[dyB_one]at h
 obtain⟨rfl,rfl,rfl⟩:=exp_alive h
 exact⟨tr,rfl,hb⟩
theorem alive31_any {w:World}(hT:Tab w):Calls Tryz.prog 6 #[] w (fun e w'=>e= .returned (.bool true)∧Below w.heap.size w w'):=by
 have HP:=Lib.hid (fun w=>plain_n (w:=w))
 have HE:=Lib.hid (fun w (hT:Tab w)=>exp_one (w:=w) hT)
 have HL:=Lib.hid (fun w=>show Calls Tryz.prog 12 #[.int .u64 0,.agg #[.int .i64 0,.int .i64 0,.int .i64 0,.pointer none]] w _ from eln_bad (w:=w) (x:=0) (a:=0) (b:=0) (dir:=0) (by decide) (.inl (by unfold planOk;omega)))
 go_enter Tryz.func6,Tryz.ntmps6
 go_wp2_with
  (first
    |(go_at_call 10;(with_reducible refine(HP.out _).mono ?_);rintro e w1 ⟨rfl,hb1⟩;have B1:=hb1;have T1:=hT.below hb1;clear hT)
    |(go_at_call 11;(with_reducible refine(HE.out _ T1).mono ?_);rintro e w2 ⟨tr,rfl,hb2⟩;have B2:=B1.trans (hb2.mono B1.size);have T2:=T1.below hb2;clear T1)
    |(go_at_call 12;(with_reducible refine(HL.out _).mono ?_);rintro e w3 ⟨rfl,hb3⟩;have hb3':=(below_a hb3);have B3:=B2.trans (hb3'.mono B2.size);have T3:=T2.below hb3';clear T2;have R3:=blk_new.below hb3;obtain⟨cR0_3,cR1_3,cR2_3,fR0_3,fR1_3,fR2_3,sR_3⟩:=R3.open3)
    |fail)
 go_ret
 exact⟨rfl,below_al B3 _⟩
def Res31 (k x fr pt:Nat) (dir:Int) (b:Nat) (f st tr:Int):Prop:=
 if k=0 then ExpRes (dyB x) fr pt dir b f st tr else if k=1 then LnRes x fr pt dir b f st tr else Ex1Res x fr pt dir b f st tr
def CallR (k x:Nat) (dir fr pt:Int) (b:Nat) (f st tr er:Int):Prop:=
 (rightW dir fr pt=false∧b=0∧f=0∧st=0∧tr=0∧er=1)∨
 (rightW dir fr pt=true∧er=0∧(((spec31 k x).2.2=true∧b=(spec31 k x).1∧f=(spec31 k x).2.1∧st=0∧tr=0)∨((spec31 k x).2.2=false∧Res31 k x fr.toNat pt.toNat dir b f st tr)))
theorem callR_bad {k x:Nat}{dir fr pt:Int}(h:rightW dir fr pt=false):CallR k x dir fr pt 0 0 0 0 1:= .inl ⟨h,rfl,rfl,rfl,rfl,rfl⟩
theorem callR_spec {k x b:Nat}{dir fr pt f:Int}(h:rightW dir fr pt=true) (hs:spec31 k x=(b,f,true)):CallR k x dir fr pt b f 0 0 0:= .inr ⟨h,rfl,.inl ⟨by rw[hs],by rw[hs],by rw[hs],rfl,rfl⟩⟩
theorem callR_res {k x b c:Nat}{dir fr pt f g st tr:Int}(h:rightW dir fr pt=true) (hs:spec31 k x=(c,g,false)) (hr:Res31 k x fr.toNat pt.toNat dir b f st tr):CallR k x dir fr pt b f st tr 0:= .inr ⟨h,rfl,.inr ⟨by rw[hs],hr⟩⟩
theorem rightW_parts {dir fr pt:Int}(h:rightW dir fr pt=true):0≤dir∧dir≤3∧32≤fr∧fr≤pt∧64≤pt∧pt≤8192:=by
 unfold rightW planB at h
 simp only[Bool.and_eq_true,decide_eq_true_eq]at h
 omega
theorem rightW_bad {dir fr pt:Int}(h:rightW dir fr pt=false):¬planOk fr pt∨dir<0∨3<dir:=by
 rcases Classical.em (planOk fr pt)with hp|hp
 ·right
  rcases Int.lt_or_le dir 0 with h0|h0
  ·exact .inl h0
  ·rcases Int.lt_or_le 3 dir with h3|h3
   ·exact .inr h3
   ·exfalso
    unfold rightW at h
    rw[planB_iff.2 hp,decide_eq_true h0,decide_eq_true h3]at h
    cases h
 ·exact .inl hp
theorem far_small {pt:Int}(h:farW pt=false) (h2:pt≤8192):pt≤1024:=by
 unfold farW at h
 rcases Int.lt_or_le 1024 pt with h3|h3
 ·rw[decide_eq_true h3,decide_eq_true h2]at h;cases h
 ·exact h3
section
variable {w:World}{x:Nat}{dir fr pt:Int}
abbrev retC (b:Nat) (f st tr er:Int):Ending:= .returned (.tuple #[.agg #[L64 b,.int .u8 f,.int .i64 st],.int .i64 tr,.int .i64 er])
theorem kind_inf (hx:x<18446744073709551616) (hk:kindN x=3) (hn:negN x=false):x=9218868437227405312:=by
 unfold negN at hn
 have h1:=of_decide_eq_false hn
 unfold kindN fldN frcN at hk
 split at hk
 ·split at hk<;>omega
 ·split at hk
  ·omega
  ·split at hk
   ·omega
   ·split at hk<;>omega
theorem exp_call (hx:x<18446744073709551616) (hT:Tab w) (hf:farW pt=false):Calls Tryz.prog 11 #[L64 x,.agg #[.int .i64 dir,.int .i64 fr,.int .i64 pt,.pointer none]] w (fun r w'=>∃b f st tr er,r=retC b f st tr er∧CallR 0 x dir fr pt b f st tr er∧Below w.heap.size w w'):=by
 cases hr:rightW dir fr pt
 ·refine(eexp_bad hx (rightW_bad hr)).mono ?_
  rintro r w' ⟨rfl,hb⟩
  exact⟨0,0,0,0,1,rfl,callR_bad hr,hb⟩
 ·obtain⟨d0,d3,p1,p2,p3,p4⟩:=rightW_parts hr
  have p5:=far_small hf p4
  obtain⟨a,rfl⟩:=Int.eq_ofNat_of_zero_le (show 0≤fr by omega)
  obtain⟨b,rfl⟩:=Int.eq_ofNat_of_zero_le (show 0≤pt by omega)
  have h1:32≤a:=by omega
  have h2:a≤b:=by omega
  have h3:64≤b:=by omega
  have h4:b≤8192:=by omega
  have h5:b≤7000:=by omega
  have hk5:=kind_le x
  by_cases k5:kindN x=5
  ·refine(eexp_sig hx h1 h2 h3 h4 d0 d3 k5).mono ?_
   rintro r w' ⟨rfl,hb⟩
   exact⟨9221120237041090560,16,0,0,0,rfl,callR_spec hr (by unfold spec31;rw[if_pos (by omega),if_pos k5]),hb⟩
  by_cases k4:kindN x=4
  ·refine(eexp_quiet hx h1 h2 h3 h4 d0 d3 k4).mono ?_
   rintro r w' ⟨rfl,hb⟩
   exact⟨9221120237041090560,0,0,0,0,rfl,callR_spec hr (by unfold spec31;rw[if_pos (by omega),if_neg k5]),hb⟩
  have nk:¬3<kindN x:=by omega
  by_cases k0:kindN x=0
  ·refine(eexp_zero hx h1 h2 h3 h4 d0 d3 hT k0).mono ?_
   rintro r w' ⟨rfl,hb⟩
   exact⟨4607182418800017408,0,0,0,0,rfl,callR_spec hr (by unfold spec31;rw[if_neg nk,if_pos rfl,if_pos k0]),hb⟩
  by_cases k3:kindN x=3
  ·cases hn:negN x
   ·refine(eexp_pinf hx h1 h2 h3 h4 d0 d3 k3 hn).mono ?_
    rintro r w' ⟨rfl,hb⟩
    exact⟨9218868437227405312,0,0,0,0,rfl,callR_spec hr (by unfold spec31;rw[if_neg nk,if_pos rfl,if_neg k0,if_pos k3,if_neg (by rw[hn];decide),kind_inf hx k3 hn]),hb⟩
   ·refine(eexp_ninf hx h1 h2 h3 h4 d0 d3 k3 hn).mono ?_
    rintro r w' ⟨rfl,hb⟩
    exact⟨0,0,0,0,0,rfl,callR_spec hr (by unfold spec31;rw[if_neg nk,if_pos rfl,if_neg k0,if_pos k3,if_pos hn]),hb⟩
  refine(eexp_fin hx h1 h2 h3 h4 d0 d3 hT (kind_fin.1 (by omega)) k0).mono ?_
  rintro r w' ⟨b',f,st,tr,rfl,h,hb⟩
  exact⟨b',f,st,tr,0,rfl,callR_res (c:=x) (g:=0) hr (by unfold spec31;rw[if_neg nk,if_pos rfl,if_neg k0,if_neg k3]) h,hb⟩
theorem ln_call (hx:x<18446744073709551616) (hT:Tab w) (hf:farW pt=false):Calls Tryz.prog 12 #[L64 x,.agg #[.int .i64 dir,.int .i64 fr,.int .i64 pt,.pointer none]] w (fun r w'=>∃b f st tr er,r=retC b f st tr er∧CallR 1 x dir fr pt b f st tr er∧Below w.heap.size w w'):=by
 cases hr:rightW dir fr pt
 ·refine(eln_bad hx (rightW_bad hr)).mono ?_
  rintro r w' ⟨rfl,hb⟩
  exact⟨0,0,0,0,1,rfl,callR_bad hr,hb⟩
 ·obtain⟨d0,d3,p1,p2,p3,p4⟩:=rightW_parts hr
  have p5:=far_small hf p4
  obtain⟨a,rfl⟩:=Int.eq_ofNat_of_zero_le (show 0≤fr by omega)
  obtain⟨b,rfl⟩:=Int.eq_ofNat_of_zero_le (show 0≤pt by omega)
  have h1:32≤a:=by omega
  have h2:a≤b:=by omega
  have h3:64≤b:=by omega
  have h4:b≤8192:=by omega
  have h5:b≤7000:=by omega
  have hk5:=kind_le x
  by_cases k5:kindN x=5
  ·refine(eln_sig hx h1 h2 h3 h4 d0 d3 k5).mono ?_
   rintro r w' ⟨rfl,hb⟩
   exact⟨9221120237041090560,16,0,0,0,rfl,callR_spec hr (by unfold spec31;rw[if_pos (by omega),if_pos k5]),hb⟩
  by_cases k4:kindN x=4
  ·refine(eln_quiet hx h1 h2 h3 h4 d0 d3 k4).mono ?_
   rintro r w' ⟨rfl,hb⟩
   exact⟨9221120237041090560,0,0,0,0,rfl,callR_spec hr (by unfold spec31;rw[if_pos (by omega),if_neg k5]),hb⟩
  have nk:¬3<kindN x:=by omega
  by_cases k0:kindN x=0
  ·refine(eln_zero hx h1 h2 h3 h4 d0 d3 k0).mono ?_
   rintro r w' ⟨rfl,hb⟩
   exact⟨18442240474082181120,8,0,0,0,rfl,callR_spec hr (by unfold spec31;rw[if_neg nk,if_neg (by decide),if_pos rfl,if_pos k0]),hb⟩
  rcases Bool.eq_false_or_eq_true (negN x)with hn|hn
  ·refine(eln_neg hx h1 h2 h3 h4 d0 d3 (by omega) (by omega) hn).mono ?_
   rintro r w' ⟨rfl,hb⟩
   exact⟨9221120237041090560,16,0,0,0,rfl,callR_spec hr (by unfold spec31;rw[if_neg nk,if_neg (by decide),if_pos rfl,if_neg k0,if_pos hn]),hb⟩
  have nn:¬negN x=true:=by rw[hn];decide
  by_cases k1:x=4607182418800017408
  ·refine(eln_one hx h1 h2 h3 h4 d0 d3 k1).mono ?_
   rintro r w' ⟨rfl,hb⟩
   exact⟨0,0,0,0,0,rfl,callR_spec hr (by unfold spec31;rw[if_neg nk,if_neg (by decide),if_pos rfl,if_neg k0,if_neg nn,if_pos k1]),hb⟩
  by_cases k3:kindN x=3
  ·have hxi:x=9218868437227405312:=kind_inf hx k3 hn
   refine(eln_inf hx h1 h2 h3 h4 d0 d3 hxi).mono ?_
   rintro r w' ⟨rfl,hb⟩
   exact⟨x,0,0,0,0,by rw[hxi];rfl,callR_spec hr (by unfold spec31;rw[if_neg nk,if_neg (by decide),if_pos rfl,if_neg k0,if_neg nn,if_neg k1,if_pos k3]),hb⟩
  refine(eln_fin hx h1 h2 h3 h4 d0 d3 hT (kind_fin.1 (by omega)) k0 hn k1).mono ?_
  rintro r w' ⟨b',f,st,tr,rfl,h,hb⟩
  exact⟨b',f,st,tr,0,rfl,callR_res (c:=x) (g:=0) hr (by unfold spec31;rw[if_neg nk,if_neg (by decide),if_pos rfl,if_neg k0,if_neg nn,if_neg k1,if_neg k3]) h,hb⟩
theorem ex1_call (hx:x<18446744073709551616) (hT:Tab w) (hf:farW pt=false):Calls Tryz.prog 37 #[L64 x,.agg #[.int .i64 dir,.int .i64 fr,.int .i64 pt,.pointer none]] w (fun r w'=>∃b f st tr er,r=retC b f st tr er∧CallR 2 x dir fr pt b f st tr er∧Below w.heap.size w w'):=by
 cases hr:rightW dir fr pt
 ·refine(eex1_bad hx (rightW_bad hr)).mono ?_
  rintro r w' ⟨rfl,hb⟩
  exact⟨0,0,0,0,1,rfl,callR_bad hr,hb⟩
 ·obtain⟨d0,d3,p1,p2,p3,p4⟩:=rightW_parts hr
  have p5:=far_small hf p4
  obtain⟨a,rfl⟩:=Int.eq_ofNat_of_zero_le (show 0≤fr by omega)
  obtain⟨b,rfl⟩:=Int.eq_ofNat_of_zero_le (show 0≤pt by omega)
  have h1:32≤a:=by omega
  have h2:a≤b:=by omega
  have h3:64≤b:=by omega
  have h4:b≤8192:=by omega
  have h5:b≤7000:=by omega
  have hk5:=kind_le x
  by_cases k5:kindN x=5
  ·refine(eex1_sig hx h1 h2 h3 h4 d0 d3 k5).mono ?_
   rintro r w' ⟨rfl,hb⟩
   exact⟨9221120237041090560,16,0,0,0,rfl,callR_spec hr (by unfold spec31;rw[if_pos (by omega),if_pos k5]),hb⟩
  by_cases k4:kindN x=4
  ·refine(eex1_quiet hx h1 h2 h3 h4 d0 d3 k4).mono ?_
   rintro r w' ⟨rfl,hb⟩
   exact⟨9221120237041090560,0,0,0,0,rfl,callR_spec hr (by unfold spec31;rw[if_pos (by omega),if_neg k5]),hb⟩
  have nk:¬3<kindN x:=by omega
  by_cases k3:kindN x=3
  ·cases hn:negN x
   ·refine(eex1_pinf hx h1 h2 h3 h5 d0 d3 hT k3 hn).mono ?_
    rintro r w' ⟨rfl,hb⟩
    exact⟨x,0,0,0,0,rfl,callR_spec hr (by unfold spec31;rw[if_neg nk,if_neg (by decide),if_neg (by decide),if_pos k3,if_neg (by rw[hn];decide)]),hb⟩
   ·refine(eex1_ninf hx h1 h2 h3 h5 d0 d3 hT k3 hn).mono ?_
    rintro r w' ⟨rfl,hb⟩
    exact⟨13830554455654793216,0,0,0,0,rfl,callR_spec hr (by unfold spec31;rw[if_neg nk,if_neg (by decide),if_neg (by decide),if_pos k3,if_pos hn]),hb⟩
  by_cases k0:kindN x=0
  ·refine(eex1_zero hx h1 h2 h3 h5 d0 d3 hT k0).mono ?_
   rintro r w' ⟨rfl,hb⟩
   exact⟨x,0,0,0,0,rfl,callR_spec hr (by unfold spec31;rw[if_neg nk,if_neg (by decide),if_neg (by decide),if_neg k3,if_pos k0]),hb⟩
  have hfin:=kind_fin.1 (show kindN x<3 by omega)
  by_cases ht:topD (dyB x)< -60
  ·refine(eex1_tiny hx h1 h2 h3 h5 d0 d3 hT hfin k0 ht).mono ?_
   rintro r w' ⟨b',f,st,tr,rfl,h,hb⟩
   exact⟨b',f,st,tr,0,rfl,callR_res (c:=x) (g:=0) hr (by unfold spec31;rw[if_neg nk,if_neg (by decide),if_neg (by decide),if_neg k3,if_neg k0]) h,hb⟩
  ·refine(eex1_rest hx h1 h2 h3 h5 d0 d3 hT hfin k0 ht).mono ?_
   rintro r w' ⟨b',f,st,tr,rfl,h,hb⟩
   exact⟨b',f,st,tr,0,rfl,callR_res (c:=x) (g:=0) hr (by unfold spec31;rw[if_neg nk,if_neg (by decide),if_neg (by decide),if_neg k3,if_neg k0]) h,hb⟩
end
end Go.Proofs.YtffaefjkpipjnaaGreatDoor

namespace Go.Proofs.YtffaefjkpipjnaaGreatDoor
set_option linter.unusedVariables false
set_option linter.unusedSimpArgs false
set_option maxRecDepth 100000
open Go.RowKit Go.ChangeShapes Go.WideShapes
theorem lcall0_n {w:World}{x:Nat}{dir fr pt:Int}(hx:x<18446744073709551616) (hT:Tab w) (hf:farW pt=false):Calls Tryz.prog 15 #[.int .i64 0,L64 x,.agg #[.int .i64 dir,.int .i64 fr,.int .i64 pt,.pointer none]] w (fun r w'=>∃b f st tr er,r=retC b f st tr er∧CallR 0 x dir fr pt b f st tr er∧Below w.heap.size w w'):=by
 have HE:=Lib.hid (fun w (hT:Tab w)=>exp_call (w:=w) (dir:=dir) (fr:=fr) (pt:=pt) hx hT hf)
 clear hx hf
 go_enter Tryz.func15,Tryz.ntmps15
 go_wp2_with
  (first
    |(go_at_call 11;(with_reducible refine(HE.out _ (hT.below below_2)).mono ?_);rintro e w1 ⟨b,f,st,tr,er,rfl,hc,hb1⟩;have B1:=below_2.trans (hb1.mono below_2.size);have T1:=((hT.below below_2)).below hb1;have P1:=((blk_a1)).below hb1;have R1:=((blk_a2)).below hb1;obtain⟨cP0_1,cP1_1,cP2_1,cP3_1,fP0_1,fP1_1,fP2_1,fP3_1,sP_1⟩:=P1.open4;obtain⟨cR0_1,cR1_1,cR2_1,fR0_1,fR1_1,fR2_1,sR_1⟩:=R1.open3)
    |fail)
 obtain⟨z0,z1,z2,-⟩:=(R1.set3 (L64 b) (.int .u8 f) (.int .i64 st)).open3
 refine bodyPost_ret (v:= .tuple #[.agg #[L64 b,.int .u8 f,.int .i64 st],.int .i64 tr,.int .i64 er]) (by simp[results,Tryz.results15,go_sem,z0,z1,z2]) rfl ⟨b,f,st,tr,er,rfl,hc,below_set3b B1 (by omega) _ _ _⟩
theorem lcall1_n {w:World}{x:Nat}{dir fr pt:Int}(hx:x<18446744073709551616) (hT:Tab w) (hf:farW pt=false):Calls Tryz.prog 15 #[.int .i64 1,L64 x,.agg #[.int .i64 dir,.int .i64 fr,.int .i64 pt,.pointer none]] w (fun r w'=>∃b f st tr er,r=retC b f st tr er∧CallR 1 x dir fr pt b f st tr er∧Below w.heap.size w w'):=by
 have HE:=Lib.hid (fun w (hT:Tab w)=>ln_call (w:=w) (dir:=dir) (fr:=fr) (pt:=pt) hx hT hf)
 clear hx hf
 go_enter Tryz.func15,Tryz.ntmps15
 go_wp2_with
  (first
    |(go_at_call 12;(with_reducible refine(HE.out _ (hT.below below_2)).mono ?_);rintro e w1 ⟨b,f,st,tr,er,rfl,hc,hb1⟩;have B1:=below_2.trans (hb1.mono below_2.size);have T1:=((hT.below below_2)).below hb1;have P1:=((blk_a1)).below hb1;have R1:=((blk_a2)).below hb1;obtain⟨cP0_1,cP1_1,cP2_1,cP3_1,fP0_1,fP1_1,fP2_1,fP3_1,sP_1⟩:=P1.open4;obtain⟨cR0_1,cR1_1,cR2_1,fR0_1,fR1_1,fR2_1,sR_1⟩:=R1.open3)
    |fail)
 obtain⟨z0,z1,z2,-⟩:=(R1.set3 (L64 b) (.int .u8 f) (.int .i64 st)).open3
 refine bodyPost_ret (v:= .tuple #[.agg #[L64 b,.int .u8 f,.int .i64 st],.int .i64 tr,.int .i64 er]) (by simp[results,Tryz.results15,go_sem,z0,z1,z2]) rfl ⟨b,f,st,tr,er,rfl,hc,below_set3b B1 (by omega) _ _ _⟩
theorem lcall2_n {w:World}{x:Nat}{dir fr pt:Int}(hx:x<18446744073709551616) (hT:Tab w) (hf:farW pt=false):Calls Tryz.prog 15 #[.int .i64 2,L64 x,.agg #[.int .i64 dir,.int .i64 fr,.int .i64 pt,.pointer none]] w (fun r w'=>∃b f st tr er,r=retC b f st tr er∧CallR 2 x dir fr pt b f st tr er∧Below w.heap.size w w'):=by
 have HE:=Lib.hid (fun w (hT:Tab w)=>ex1_call (w:=w) (dir:=dir) (fr:=fr) (pt:=pt) hx hT hf)
 clear hx hf
 go_enter Tryz.func15,Tryz.ntmps15
 go_wp2_with
  (first
    |(go_at_call 37;(with_reducible refine(HE.out _ (hT.below below_2)).mono ?_);rintro e w1 ⟨b,f,st,tr,er,rfl,hc,hb1⟩;have B1:=below_2.trans (hb1.mono below_2.size);have T1:=((hT.below below_2)).below hb1;have P1:=((blk_a1)).below hb1;have R1:=((blk_a2)).below hb1;obtain⟨cP0_1,cP1_1,cP2_1,cP3_1,fP0_1,fP1_1,fP2_1,fP3_1,sP_1⟩:=P1.open4;obtain⟨cR0_1,cR1_1,cR2_1,fR0_1,fR1_1,fR2_1,sR_1⟩:=R1.open3)
    |fail)
 obtain⟨z0,z1,z2,-⟩:=(R1.set3 (L64 b) (.int .u8 f) (.int .i64 st)).open3
 refine bodyPost_ret (v:= .tuple #[.agg #[L64 b,.int .u8 f,.int .i64 st],.int .i64 tr,.int .i64 er]) (by simp[results,Tryz.results15,go_sem,z0,z1,z2]) rfl ⟨b,f,st,tr,er,rfl,hc,below_set3b B1 (by omega) _ _ _⟩
end Go.Proofs.YtffaefjkpipjnaaGreatDoor
