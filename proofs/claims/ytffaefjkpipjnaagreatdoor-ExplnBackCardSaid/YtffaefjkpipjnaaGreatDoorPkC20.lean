/- series.Atanh by its contracts. Conditions: the numbers are short; math/bits' table stands in its variable. -/
import Derived.Test.YtffaefjkpipjnaaGreatDoorPkC18
import Derived.Deep.QuietTactic
import Derived.BigQuiet
import Derived.Deep.RegionWith
namespace Go.Proofs.YtffaefjkpipjnaaGreatDoor
set_option maxRecDepth 100000
open Go.RowKit Go.ChangeShapes Go.WideShapes
set_option linter.unusedVariables false
theorem scale_ok {w:World}{s:Nat}(h1:8≤s) (h2:s≤9000):Calls Tryz.prog 103 #[.int .i64 (s:Int)] w fun e w'=>e= .returned (.bool true)∧w'=w:=by
 have d1:decide ((8:Int)≤(s:Int))=true:=decide_eq_true (by omega)
 have d2:decide ((s:Int)≤9000)=true:=decide_eq_true (by omega)
 go_enter Tryz.func103,Tryz.ntmps103
 go_wp2
 go_ret
 exact⟨rfl,rfl⟩
theorem cmpN_le' {a b:Nat}(h:a≤b):cmpN a b≤0:=by
 unfold cmpN
 split
 ·decide
 ·rw[if_pos (by omega)];decide
theorem bits_s {x s:Nat}(hs:s≤9000) (h:x≤2^s+3):bitN x≤9010:=by
 have h1:x<2^(s+3):=by
  have:=Nat.two_pow_pos s
  rw[Nat.pow_add];omega
 exact Nat.le_trans (bitN_le.2 h1) (by omega)
theorem bits_sum {x s:Nat}(hs:s≤9000) (h:x≤(s+3)*2^s+3*s):bitN x≤20000:=by
 have h0:=Nat.two_pow_pos s
 have h1:s<2^s:=Nat.lt_two_pow_self
 have h2:x<2^(s+5)*2^s:=by
  refine Nat.lt_of_le_of_lt h ?_
  have h3:s+3≤2^(s+4):=by rw[Nat.pow_add];omega
  have h4:=Nat.mul_le_mul_right (2^s) h3
  have h5:2^(s+5)*2^s=2^(s+4)*2^s+2^(s+4)*2^s:=by rw[Nat.pow_succ 2 (s+4)];grind
  have h6:3*s<2^(s+4)*2^s:=Nat.lt_of_lt_of_le (show 3*s<2^(s+4)by rw[Nat.pow_add];omega) (Nat.le_mul_of_pos_right _ h0)
  omega
 rw[←Nat.pow_add]at h2
 exact Nat.le_trans (bitN_le.2 h2) (by omega)
def InP (w:World) (b:Nat) (p:Pr):Prop:=∃a n k a' n' k',Blk w b #[.slice a n k,.slice a' n' k']∧RdN w (.slice a n k) (digs BB p.lo)∧RdN w (.slice a' n' k') (digs BB p.hi)
theorem InP.below {w w':World}{b:Nat}{p:Pr}(h:InP w b p) (hb:Below w.heap.size w w'):InP w' b p:=by
 obtain⟨a,n,k,a',n',k',h1,h2,h3⟩:=h
 exact⟨a,n,k,a',n',k',h1.below hb,h2.below hb,h3.below hb⟩
theorem InP.other {w:World}{b b':Nat}{p q:Pr}(h:InP w b p) (h':InP w b' q) (hne:b≠b') (x y:Value):InP ((w.setCell ⟨b',0,none⟩ x).setCell ⟨b',1,none⟩ y) b p:=by
 obtain⟨a,n,k,c,m,j,h1,h2,h3⟩:=h
 obtain⟨_,_,_,_,_,_,g1,-,-⟩:=h'
 exact⟨a,n,k,c,m,j,h1.other2 hne _ _,h2.set2 g1 pcells _ _,h3.set2 g1 pcells _ _⟩
theorem InP.store {w:World}{b:Nat}{p q:Pr}(h:InP w b p) {a a':Option Addr}{n k n' k':Nat}(h2:RdN w (.slice a n k) (digs BB q.lo)) (h3:RdN w (.slice a' n' k') (digs BB q.hi)):InP ((w.setCell ⟨b,0,none⟩ (.slice a n k)).setCell ⟨b,1,none⟩ (.slice a' n' k')) b q:=by
 obtain⟨_,_,_,_,_,_,g1,-,-⟩:=h
 exact⟨a,n,k,a',n',k',g1.set2 _ _,h2.set2 g1 pcells _ _,h3.set2 g1 pcells _ _⟩
theorem Tab.set2 {w:World}{b:Nat}(h:Tab w) (hb:0≠b) (x y:Value):Tab ((w.setCell ⟨b,0,none⟩ x).setCell ⟨b,1,none⟩ y):=
 h.fr (((Fr.refl (fun g=>g=b) w).setCell (p:=⟨b,0,none⟩) rfl x).setCell (p:=⟨b,1,none⟩) rfl y) hb
def AtDet (A B s L H:Nat):Prop:=∃N,(atT (fracP A B (2^s)) ((fracP A B (2^s)).times (fracP A B (2^s)) (2^s)) (2^s) N).lo=0∧
 (∀j,j<N→(atT (fracP A B (2^s)) ((fracP A B (2^s)).times (fracP A B (2^s)) (2^s)) (2^s) j).lo≠0)∧L=(atR A B (2^s) N).lo∧H=(atR A B (2^s) N).hi
theorem AtDet.uniq {A B s L H L' H':Nat}(h:AtDet A B s L H) (k:AtDet A B s L' H'):L=L'∧H=H':=by
 obtain⟨N,a1,a2,a3,a4⟩:=h
 obtain⟨N',b1,b2,b3,b4⟩:=k
 have:N=N':=by
  rcases Nat.lt_trichotomy N N' with h|h|h
  ·exact absurd a1 (b2 N h)
  ·exact h
  ·exact absurd b1 (a2 N' h)
 subst this
 exact⟨a3.trans b3.symm,a4.trans b4.symm⟩
theorem AtDet.zero {B s:Nat}:AtDet 0 B s 0 0:=by
 refine⟨0,?_,fun j hj=>absurd hj (Nat.not_lt_zero j),?_,?_⟩
 ·show 0*2^s/B=0
  rw[Nat.zero_mul,Nat.zero_div]
 ·rfl
 ·show 0=0+(cdiv (0*2^s) B+cdiv (0*2^s) B)
  rw[Nat.zero_mul,cdiv_zero]
section
variable {w:World}{v u:Value}{A B s:Nat}
set_option maxHeartbeats 4000000 in
theorem Atanh_det (h:Num w v A) (k:Num w u B) (hT:Tab w) (s1:8≤s) (s2:s≤9000) (sA:bitN A≤4096) (sB:bitN B≤4096) (hA:A≠0) (hB:0<B) (h3:3*A≤B):
 Calls Tryz.prog 64 #[v,u,.int .i64 (s:Int)] w fun e w'=>∃vl vh L H,e= .returned (.tuple #[vl,vh,.int .i64 0])∧RdN w' vl (digs BB L)∧RdN w' vh (digs BB H)∧(AtOk A B s L H∧AtDet A B s L H)∧Below w.heap.size w w':=by
 obtain⟨bA,eA⟩:∃b,bitN A=b:=⟨_,rfl⟩
 obtain⟨bB,eB⟩:∃b,bitN B=b:=⟨_,rfl⟩
 have nA:bA≠0:=fun e=>hA (eq_zero_of_bitN (eA.trans e))
 have nB:bB≠0:=fun e=>by have:=eq_zero_of_bitN (eB.trans e);omega
 obtain⟨c,ec⟩:∃c,cmpN (A*3) B=c:=⟨_,rfl⟩
 have dc:decide (0<c)=false:=decide_eq_false (by have:=cmpN_le' (show A*3≤B by omega);omega)
 have d1:decide (4096<(bA:Int))=false:=decide_eq_false (by omega)
 have d2:decide (4096<(bB:Int))=false:=decide_eq_false (by omega)
 have d3:((bB:Int)==0)=false:=beq_false_of_ne (by omega)
 have d4:((bA:Int)==0)=false:=beq_false_of_ne (by omega)
 have HT3:Hid (Calls Tryz.prog 110 #[v,.int .u64 3] w (OneZ w (A*3))):=Lib.hid (times_n (n:=3) h (by decide) rfl (by have:bitN 3≤2:=bitN_le.2 (by decide);omega))
 have s3:bitN (A*3)≤2560000:=Nat.le_trans (bitN_mul_le _ _) (by have:bitN 3≤2:=bitN_le.2 (by decide);omega)
 have hS:0<2^s:=Nat.two_pow_pos s
 have hg0:=hT.lt
 have eA':=Lib.hid eA;have eB':=Lib.hid eB;have ec':=Lib.hid ec
 clear eA eB ec
 go_enter Tryz.func64,Tryz.ntmps64
 go_upto_region 6 with
  (first
    |(go_at_call 110;(with_reducible refine(HT3.out).mono ?_);rintro e w1 ⟨vt1,rfl,t1,hb1⟩;have B1:=hb1;have m1:=h.below hb1;have g1:=k.below hb1;have T1:=hT.below hb1;clear h k hT)
    |(go_at_call 103;(with_reducible refine(scale_ok s1 s2).mono ?_);rintro e w2 ⟨rfl,rfl⟩)
    |(go_at_call 48;(with_reducible refine(bits_n m1 eA'.out).mono ?_);rintro e w3 ⟨rfl,hb3⟩;have B3:=B1.trans (hb3.mono B1.size);have m3:=m1.below hb3;have g3:=g1.below hb3;have T3:=T1.below hb3;have t3:=t1.below hb3;clear m1 g1 T1 t1)
    |(go_at_call 48;(with_reducible refine(bits_n g3 eB'.out).mono ?_);rintro e w4 ⟨rfl,hb4⟩;have B4:=B3.trans (hb4.mono B3.size);have m4:=m3.below hb4;have g4:=g3.below hb4;have T4:=T3.below hb4;have t4:=t3.below hb4;clear m3 g3 T3 t3)
    |(go_at_call 48;(with_reducible refine(bits_n g4 eB'.out).mono ?_);rintro e w5 ⟨rfl,hb5⟩;have B5:=B4.trans (hb5.mono B4.size);have m5:=m4.below hb5;have g5:=g4.below hb5;have T5:=T4.below hb5;have t5:=t4.below hb5;clear m4 g4 T4 t4)
    |(go_at_call 102;(with_reducible refine(cmp_n (t5.num s3) g5 ec'.out).mono ?_);rintro e w6 ⟨rfl,hb6⟩;have B6:=B5.trans (hb6.mono B5.size);have m6:=m5.below hb6;have g6:=g5.below hb6;have T6:=T5.below hb6;have t6:=t5.below hb6;clear m5 g5 T5 t5)
    |(go_at_call 48;(with_reducible refine(bits_n m6 eA'.out).mono ?_);rintro e w7 ⟨rfl,hb7⟩;have B7:=B6.trans (hb7.mono B6.size);have m7:=m6.below hb7;have g7:=g6.below hb7;have T7:=T6.below hb7;have t7:=t6.below hb7;clear m6 g6 T6 t6)
    |fail)
 have hB0:B≠0:=by omega
 have e8:8≤2^s:=by have:=Nat.pow_le_pow_right (n:=2) (by omega) s1;omega
 obtain⟨t,ht⟩:∃t,fracP A B (2^s)=t:=⟨_,rfl⟩
 have t3:3*t.lo≤2^s:=by rw[←ht];exact frac_third hB h3
 have tw:t.hi≤t.lo+1:=by rw[←ht];exact frac_thin hB
 obtain⟨q,hq⟩:∃q,t.times t (2^s)=q:=⟨_,rfl⟩
 have q9:9*q.lo≤2^s:=by rw[←hq];exact sq_small hS t3
 have qw:q.hi≤q.lo+2:=by rw[←hq];exact sq_thin e8 t3 tw
 have bt1:bitN t.lo≤9010:=bits_s s2 (by omega)
 have bt2:bitN t.hi≤9010:=bits_s s2 (by omega)
 have bq1:bitN q.lo≤9010:=bits_s s2 (by omega)
 have bq2:bitN q.hi≤9010:=bits_s s2 (by omega)
 have HFR:=Lib.hid (fun(w:World) (h:Num w v A) (k:Num w u B) (hT:Tab w)=>frac_n (n:=s) h k hT hB0 (by omega))
 rw[ht]at HFR
 have hrounds:=Lib.hid (fun k=>atT_rounds (n:=A) (d:=B) (s:=s) (k:=k) hB h3)
 have hok:Hid (∀N,(atT (fracP A B (2^s)) ((fracP A B (2^s)).times (fracP A B (2^s)) (2^s)) (2^s) N).lo=0→3*N≤s+2→(∀j,j<N→(atT (fracP A B (2^s)) ((fracP A B (2^s)).times (fracP A B (2^s)) (2^s)) (2^s) j).lo≠0)→
  AtOk A B s (atR A B (2^s) N).lo (atR A B (2^s) N).hi∧AtDet A B s (atR A B (2^s) N).lo (atR A B (2^s) N).hi):=Lib.hid (fun N e1 e2 e3=>⟨atR_ok (n:=A) (d:=B) (s:=s) (N:=N) s1 hB h3 e1 e2,N,e1,e3,rfl,rfl⟩)
 dsimp only[atR]at hok
 rw[ht,hq]at hrounds hok
 have HQ:=Lib.hid hq
 clear d1 d2 d3 d4 dc HT3 s3 hq ht hA hB h3
 go_wp2_with
  (first
    |(go_at_call 111;(with_reducible refine(HFR.out _ m7 g7 T7).mono ?_);rintro e w8 ⟨ta,tn,tk,tb,tm,tj,rfl,x8,y8,hb8⟩;have B8:=B7.trans (hb8.mono B7.size);have m8:=m7.below hb8;have g8:=g7.below hb8;have T8:=T7.below hb8;clear m7 g7 T7)
    |(go_at_call 104;(with_reducible refine(ptimes_n (n:=s) (p:=t) (q:=t) ((x8.below (below_alloc _ _)).num (by omega)) ((y8.below (below_alloc _ _)).num (by omega)) ((x8.below (below_alloc _ _)).num (by omega)) ((y8.below (below_alloc _ _)).num (by omega)) (T8.below (below_alloc _ _)) (by omega) (by omega) (by omega) (by omega) (by omega)).mono ?_);rintro e w9 ⟨qa,qn,qk,qb,qm,qj,rfl,z9,v9,hb9⟩;have hb9':=(below_a hb9);have B9:=B8.trans (hb9'.mono B8.size);have m9:=m8.below hb9';have g9:=g8.below hb9';have T9:=T8.below hb9';have x9:=x8.below hb9';have y9:=y8.below hb9';clear m8 g8 T8 x8 y8;have P9:=blk_new.below hb9;obtain⟨cP0_9,cP1_9,fP0_9,fP1_9,sP_9⟩:=P9.open2)
    |fail)
 have hTk:=Lib.hid (fun k=>And.intro (atT_small (t:=t) (q:=q) hS t3 q9 k) (And.intro (atT_thin e8 t3 q9 tw qw k) (atS_thin e8 t3 q9 tw qw k)))
 have hSk:=Lib.hid (fun k=>atS_short (t:=t) (q:=q) hS t3 q9 k)
 have hTb:Hid (∀k,bitN (atT t q (2^s) k).lo≤9010∧bitN (atT t q (2^s) k).hi≤9010):=Lib.hid (fun k=>by
  obtain⟨a1,a2,-⟩:=hTk.out k
  have a3:(atT t q (2^s) k).lo≤2^s:=Nat.le_trans (Nat.le_mul_of_pos_left _ (by have:=Nat.one_le_pow k 9 (by omega);omega)) a1
  exact⟨bits_s s2 (by omega),bits_s s2 (by omega)⟩)
 have hSb:Hid (∀k,3*k≤s+2→bitN (atS t q (2^s) k).lo≤20000∧bitN (atS t q (2^s) k).hi≤20000):=Lib.hid (fun k hk=>by
  obtain⟨-,-,a3⟩:=hTk.out k
  have a4:=hSk.out k
  have a5:k*2^s≤(s+3)*2^s:=Nat.mul_le_mul_right _ (by omega)
  exact⟨bits_sum s2 (by omega),bits_sum s2 (by omega)⟩)
 have I1:InP ((w9.alloc (.cells #[.slice qa qn qk,.slice qb qm qj] 157 (0,0))).alloc (.cells #[.slice none 0 0,.slice none 0 0] 157 (0,0))) w8.heap.size (atT t q (2^s) 0):=⟨_,_,_,_,_,_,P9.below below_2,x9.below below_2,y9.below below_2⟩
 have I2:InP ((w9.alloc (.cells #[.slice qa qn qk,.slice qb qm qj] 157 (0,0))).alloc (.cells #[.slice none 0 0,.slice none 0 0] 157 (0,0))) w9.heap.size q:=⟨_,_,_,_,_,_,blk_a1,by rw[←HQ.out];exact z9.below below_2,by rw[←HQ.out];exact v9.below below_2⟩
 have I3:InP ((w9.alloc (.cells #[.slice qa qn qk,.slice qb qm qj] 157 (0,0))).alloc (.cells #[.slice none 0 0,.slice none 0 0] 157 (0,0))) (w9.heap.size+1) (atS t q (2^s) 0):=⟨_,_,_,_,_,_,blk_a2,RdN.nil0 _,RdN.nil0 _⟩
 have T0:=T9.below (below_2 (o1:= .cells #[.slice qa qn qk,.slice qb qm qj] 157 (0,0)) (o2:= .cells #[.slice none 0 0,.slice none 0 0] 157 (0,0)))
 have B0:=B9.trans ((below_2 (o1:= .cells #[.slice qa qn qk,.slice qb qm qj] 157 (0,0)) (o2:= .cells #[.slice none 0 0,.slice none 0 0] 157 (0,0))).mono B9.size)
 have l1:w8.heap.size<w9.heap.size:=P9.1
 have l0:w.heap.size≤w8.heap.size:=B8.size
 clear x9 y9 z9 v9 P9 m9 g9 T9 cP0_9 cP1_9 fP0_9 fP1_9 sP_9
 obtain⟨bt,hbt⟩:∃b,b=w8.heap.size:=⟨_,rfl⟩
 obtain⟨bq,hbq⟩:∃b,b=w9.heap.size:=⟨_,rfl⟩
 rw[←hbt]at I1 l0 l1⊢
 rw[←hbq]at I2 I3 l1⊢
 clear hbt hbq
 go_loopw [14] (fun n wr=>∃k:Nat,n=L64 (2*k+1)∧3*k≤s+2∧Hid (∀j,j<k→(atT t q (2^s) j).lo≠0)∧InP wr bt (atT t q (2^s) k)∧InP wr bq q∧InP wr (bq+1) (atS t q (2^s) k)∧Tab wr∧Below w.heap.size w wr) (fun n _=>2*s+10-(intOf n).toNat)
 case atStart=>exact⟨0,rfl,by omega,Lib.hid (fun j hj=>absurd hj (Nat.not_lt_zero j)),I1,I2,I3,T0,B0⟩
 case round=>
  clear I1 I2 I3 T0 B0
  obtain⟨k,rfl,hk,hj,It,Iq,Is,T1,B1⟩:=hrel
  have hj2:Hid ((atT t q (2^s) k).lo≠0→∀j,j<k+1→(atT t q (2^s) j).lo≠0):=Lib.hid (fun h j hjk=>by
   rcases Nat.lt_or_ge j k with h1|h1
   ·exact hj.out j h1
   ·have:j=k:=by omega
    subst this;exact h)
  obtain⟨nn,hnk⟩:∃nn,2*k+1=nn:=⟨_,rfl⟩
  rw[hnk]
  obtain⟨bT1,bT2⟩:=hTb.out k
  obtain⟨bS1,bS2⟩:=hSb.out k hk
  have Hok:=Lib.hid (hok.out k)
  have Hr:=Lib.hid (hrounds.out k)
  obtain⟨T',hT'⟩:∃T',T'=atT t q (2^s) (k+1):=⟨_,rfl⟩
  obtain⟨S',hS'⟩:∃S',S'=atS t q (2^s) (k+1):=⟨_,rfl⟩
  have hTs:Hid (T'=(atT t q (2^s) k).times q (2^s)):=Lib.hid hT'
  have hSs:Hid (S'=(atS t q (2^s) k).plus ((atT t q (2^s) k).by nn)):=Lib.hid (by rw[hS',←hnk];rfl)
  replace hT':=Lib.hid hT'
  replace hS':=Lib.hid hS'
  generalize atT t q (2^s) k=Tk at*
  generalize atS t q (2^s) k=Sk at*
  obtain⟨ta',tn',tk',tb',tm',tj',PT,xT,yT⟩:=id It
  obtain⟨sa,sn,sk,sb,sm,sj,PS,xS,yS⟩:=id Is
  obtain⟨b0,eb0⟩:∃b,bitN Tk.lo=b:=⟨_,rfl⟩
  obtain⟨c0,c1,g0,g1,-⟩:=PT.open2
  obtain⟨c2,c3,g2,g3,-⟩:=PS.open2
  have HI:=Lib.hid (And.intro It (And.intro Iq Is))
  have eb:=Lib.hid eb0
  by_cases hlo:Tk.lo=0
  ·have hb0:b0=0:=by rw[←eb0,hlo];exact bitN_zero
   subst hb0
   have hAt:=Hok.out hlo hk hj.out
   have ePr:Hid (Sk.rest Tk=Sk.rest Tk):=Lib.hid rfl
   clear eb0 It Iq Is hTs hSs
   go_upto_region 15 with
    (first
      |(go_at_call 48;(with_reducible refine(bits_n (xT.num (by omega)) eb.out).mono ?_);rintro e w21 ⟨rfl,hb21⟩;have B21:=B1.trans (hb21.mono B1.size);have x21:=xT.below hb21;have y21:=yT.below hb21;have z21:=xS.below hb21;have v21:=yS.below hb21;have P21:=PT.below hb21;have Q21:=PS.below hb21;have T21:=T1.below hb21;clear xT yT xS yS PT PS T1;obtain⟨cP0_21,cP1_21,fP0_21,fP1_21,sP_21⟩:=P21.open2;obtain⟨cQ0_21,cQ1_21,fQ0_21,fQ1_21,sQ_21⟩:=Q21.open2)
      |(go_at_call 107;(with_reducible refine(prest_n (p:=Sk) (q:=Tk) z21 (v21.num (by omega)) (y21.num (by omega)) (by omega)).mono ?_);rintro e w22 ⟨pa,pn,pk,pb,pm,pj,rfl,f22,g22,hb22⟩;have B22:=B21.trans (hb22.mono B21.size);have x22:=x21.below hb22;have y22:=y21.below hb22;have z22:=z21.below hb22;have v22:=v21.below hb22;have P22:=P21.below hb22;have Q22:=Q21.below hb22;have T22:=T21.below hb22;clear x21 y21 z21 v21 P21 Q21 T21;clear cP0_21 cP1_21 fP0_21 fP1_21 sP_21;obtain⟨cP0_22,cP1_22,fP0_22,fP1_22,sP_22⟩:=P22.open2;clear cQ0_21 cQ1_21 fQ0_21 fQ1_21 sQ_21;obtain⟨cQ0_22,cQ1_22,fQ0_22,fQ1_22,sQ_22⟩:=Q22.open2)
      |fail)
   have DD:=Hid.out ePr
   have cells:=Q22.open2
   obtain⟨c0,c1,g0,g1,-⟩:=cells
   go_quiet (fail)
   go_wp2
   go_ret3
   exact⟨_,_,_,_,rfl,f22.set2 Q22 pcells _ _,g22.set2 Q22 pcells _ _,hAt,below_drewN (below_set (below_set B22 (by omega) _) (by omega) _) _⟩
  ·replace hj2:=Lib.hid (hj2.out hlo)
   have hb0:b0≠0:=fun e=>hlo (eq_zero_of_bitN (eb0.trans e))
   have hb0':0<b0:=Nat.pos_of_ne_zero hb0
   have hk1:=Hr.out hlo
   have hn:nn<BB:=by rw[show BB=18446744073709551616 from rfl];omega
   have wn:IntKind.u64.wrap ((nn:Int)+2)=(nn:Int)+2:=by rw[IntKind.wrap_u64];omega
   clear eb0 It Is
   unfold L64
   go_upto_region 12 with
    (first
      |(go_at_call 48;(with_reducible refine(bits_n (xT.num (by omega)) eb.out).mono ?_);rintro e w21 ⟨rfl,hb21⟩;have B21:=B1.trans (hb21.mono B1.size);have x21:=xT.below hb21;have y21:=yT.below hb21;have z21:=xS.below hb21;have v21:=yS.below hb21;have I21:=Iq.below hb21;have P21:=PT.below hb21;have Q21:=PS.below hb21;have T21:=T1.below hb21;clear xT yT xS yS Iq PT PS T1;obtain⟨cP0_21,cP1_21,fP0_21,fP1_21,sP_21⟩:=P21.open2;obtain⟨cQ0_21,cQ1_21,fQ0_21,fQ1_21,sQ_21⟩:=Q21.open2)
      |fail)
   have PTd:Blk w21.drew _ _:=P21.below (below_drewN (Below.refl _ _) 1)
   have PSd:Blk w21.drew _ _:=Q21.below (below_drewN (Below.refl _ _) 1)
   have Dd:Below w21.heap.size w21 w21.drew:=below_drewN (Below.refl _ _) 1
   have xd:=x21.below Dd;have yd:=y21.below Dd;have zd:=z21.below Dd;have vd:=v21.below Dd;have Id:=I21.below Dd;have Td:=T21.below Dd
   have Bd:=B21.trans (Dd.mono B21.size)
   have Itd:InP w21.drew bt Tk:=⟨_,_,_,_,_,_,PTd,xd,yd⟩
   have hnn:nn≠0:=by omega
   have HBY:Hid (∀(W:World),RdN W (.slice ta' tn' tk') (digs BB Tk.lo)→RdN W (.slice tb' tm' tj') (digs BB Tk.hi)→Calls Tryz.prog 105 #[.agg #[.slice ta' tn' tk',.slice tb' tm' tj'],.int .u64 (nn:Int)] W (OneP W (Tk.by nn))):=Lib.hid (fun W h1 h2=>pby_n (p:=Tk) (h1.num (by omega)) (h2.num (by omega)) hn hnn (by omega))
   have bby:bitN (Tk.by nn).lo≤2560000∧bitN (Tk.by nn).hi≤2560000:=by
    refine⟨Nat.le_trans (bitN_mono (Nat.div_le_self _ _)) (by omega),Nat.le_trans (bitN_mono (cdiv_le_of (c:=Tk.hi) (by omega) ?_)) (by omega)⟩
    exact Nat.le_mul_of_pos_right _ (by omega)
   have hll:bt≠bq+1:=by omega
   clear P21 Q21 x21 y21 z21 v21 I21 T21 B21 Dd c0 c1 c2 c3 g0 g1 g2 g3 cP0_21 cP1_21 fP0_21 fP1_21 sP_21 cQ0_21 cQ1_21 fQ0_21 fQ1_21 sQ_21
   go_cut [] (fun wx=>InP wx bt Tk∧InP wx bq q∧InP wx (bq+1) S'∧Tab wx∧Below w.heap.size w wx)
   case first=>
    obtain⟨e0,e1,-,-,-⟩:=PTd.open2
    obtain⟨e2,e3,-,-,-⟩:=PSd.open2
    go_region_with
     (first
       |(go_at_call 105;(with_reducible refine(HBY.out _ xd yd).mono ?_);rintro e w3 ⟨ba,bn,bk,bb,bm,bj,rfl,x3,y3,h3⟩;have zz:=zd.below h3;have vv:=vd.below h3;have PT3:=PTd.below h3;have PS3:=PSd.below h3;have It3:=Itd.below h3;have Iq3:=Id.below h3;have T3:=Td.below h3;have B3:=Bd.trans (h3.mono Bd.size);obtain⟨r0,r1,-,-,-⟩:=PS3.open2)
       |(go_at_call 106;(with_reducible refine(pplus_n (p:=Sk) (q:=Tk.by nn) (zz.num (by omega)) (vv.num (by omega)) (x3.num bby.1) (y3.num bby.2)).mono ?_);rintro e w4 ⟨pa,pn,pk,pb,pm,pj,rfl,x4,y4,h4⟩;have PT4:=PT3.below h4;have PS4:=PS3.below h4;have It4:=It3.below h4;have Iq4:=Iq3.below h4;have T4:=T3.below h4;have B4:=B3.trans (h4.mono B3.size);obtain⟨g0,g1,f0,f1,-⟩:=PS4.open2)
       |fail)
    all_goals
     go_wp2_with fail
     go_meet
     have Is4:InP w4 (bq+1) Sk:=⟨_,_,_,_,_,_,PS4,(zz.below h4),(vv.below h4)⟩
     refine⟨It4.other Is4 hll _ _,Iq4.other Is4 (by omega) _ _,Is4.store (by rw[hSs.out];exact x4) (by rw[hSs.out];exact y4),?_,?_⟩
     ·exact T4.set2 (by omega) _ _
     ·exact below_set (below_set B4 (by omega) _) (by omega) _
   case rest=>
    clear PTd PSd xd yd zd vd Id Td Bd Itd HBY bby HI
    obtain⟨It,Iq,Is,T1,B1⟩:=hcut
    generalize hwx:wc=w5 at*
    clear hwx
    obtain⟨ta2,tn2,tk2,tb2,tm2,tj2,PT,xT,yT⟩:=id It
    obtain⟨qa2,qn2,qk2,qb2,qm2,qj2,PQ,xQ,yQ⟩:=id Iq
    obtain⟨c0,c1,g0,g1,-⟩:=PT.open2
    obtain⟨c2,c3,g2,g3,-⟩:=PQ.open2
    go_wp2_with
     (first
       |(go_at_call 104;(with_reducible refine(ptimes_n (n:=s) (p:=Tk) (q:=q) (xT.num (by omega)) (yT.num (by omega)) (xQ.num (by omega)) (yQ.num (by omega)) T1 (by omega) (by omega) (by omega) (by omega) (by omega)).mono ?_);rintro e w6 ⟨pa,pn,pk,pb,pm,pj,rfl,x6,y6,h6⟩;have It6:=It.below h6;have Iq6:=Iq.below h6;have Is6:=Is.below h6;have T6:=T1.below h6;have B6:=B1.trans (h6.mono B1.size);have PT6:=PT.below h6;obtain⟨d0,d1,f0,f1,-⟩:=PT6.open2)
       |fail)
    go_roundw
    case rel=>
     refine⟨k+1,?_,by omega,hj2,(show InP _ bt (atT t q (2^s) (k+1))by rw[←hT'.out];exact It6.store (by rw[hTs.out];exact x6) (by rw[hTs.out];exact y6)),Iq6.other It6 (by omega) _ _,(show InP _ (bq+1) (atS t q (2^s) (k+1))by rw[←hS'.out];exact Is6.other It6 (by omega) _ _),T6.set2 (by omega) _ _,below_set (below_set B6 (by omega) _) (by omega) _⟩
     congr 1
     omega
    case measure=>simp[intOf];omega
end
end Go.Proofs.YtffaefjkpipjnaaGreatDoor
namespace Go.Proofs.YtffaefjkpipjnaaGreatDoor
set_option maxRecDepth 100000
open Go.RowKit Go.ChangeShapes Go.WideShapes
set_option linter.unusedVariables false
section
variable {w:World}{v u:Value}{A B s:Nat}
theorem Atanh_zero (h:Num w v 0) (k:Num w u B) (s1:8≤s) (s2:s≤9000) (sB:bitN B≤4096) (hB:0<B):
 Calls Tryz.prog 64 #[v,u,.int .i64 (s:Int)] w fun e w'=>e= .returned (.tuple #[.slice none 0 0,.slice none 0 0,.int .i64 0])∧Below w.heap.size w w':=by
 obtain⟨bB,eB⟩:∃b,bitN B=b:=⟨_,rfl⟩
 have nB:bB≠0:=fun e=>by have:=eq_zero_of_bitN (eB.trans e);omega
 obtain⟨c,ec⟩:∃c,cmpN 0 B=c:=⟨_,rfl⟩
 have dc:decide (0<c)=false:=decide_eq_false (by have:=cmpN_le' (show 0≤B by omega);omega)
 have d2:decide (4096<(bB:Int))=false:=decide_eq_false (by omega)
 have d3:((bB:Int)==0)=false:=beq_false_of_ne (by omega)
 have HT3:Hid (Calls Tryz.prog 110 #[v,.int .u64 3] w (OneZ w 0)):=Lib.hid (times_n (n:=3) h (by decide) rfl (by have:bitN 3≤2:=bitN_le.2 (by decide);have:bitN 0=0:=bitN_zero;omega))
 have eB':=Lib.hid eB;have ec':=Lib.hid ec
 clear eB ec
 go_enter Tryz.func64,Tryz.ntmps64
 go_wp2_with
  (first
    |(go_at_call 110;(with_reducible refine(HT3.out).mono ?_);rintro e w1 ⟨vt1,rfl,t1,hb1⟩;have B1:=hb1;have m1:=h.below hb1;have g1:=k.below hb1;clear h k)
    |(go_at_call 103;(with_reducible refine(scale_ok s1 s2).mono ?_);rintro e w2 ⟨rfl,rfl⟩)
    |(go_at_call 48;(with_reducible refine(bits_n m1 bitN_zero).mono ?_);rintro e w3 ⟨rfl,hb3⟩;have B3:=B1.trans (hb3.mono B1.size);have m3:=m1.below hb3;have g3:=g1.below hb3;have t3:=t1.below hb3;clear m1 g1 t1)
    |(go_at_call 48;(with_reducible refine(bits_n g3 eB'.out).mono ?_);rintro e w4 ⟨rfl,hb4⟩;have B4:=B3.trans (hb4.mono B3.size);have m4:=m3.below hb4;have g4:=g3.below hb4;have t4:=t3.below hb4;clear m3 g3 t3)
    |(go_at_call 48;(with_reducible refine(bits_n g4 eB'.out).mono ?_);rintro e w5 ⟨rfl,hb5⟩;have B5:=B4.trans (hb5.mono B4.size);have m5:=m4.below hb5;have g5:=g4.below hb5;have t5:=t4.below hb5;clear m4 g4 t4)
    |(go_at_call 102;(with_reducible refine(cmp_n (t5.num (by rw[bitN_zero];omega)) g5 ec'.out).mono ?_);rintro e w6 ⟨rfl,hb6⟩;have B6:=B5.trans (hb6.mono B5.size);have m6:=m5.below hb6;have g6:=g5.below hb6;have t6:=t5.below hb6;clear m5 g5 t5)
    |(go_at_call 48;(with_reducible refine(bits_n m6 bitN_zero).mono ?_);rintro e w7 ⟨rfl,hb7⟩;have B7:=B6.trans (hb7.mono B6.size);have m7:=m6.below hb7;have g7:=g6.below hb7;have t7:=t6.below hb7;clear m6 g6 t6)
    |fail)
 go_ret3
 exact⟨rfl,B7⟩
end
end Go.Proofs.YtffaefjkpipjnaaGreatDoor
