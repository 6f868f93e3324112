/- logs.Log by its contract. Conditions: the numbers are short; math/bits' table stands in its variable. -/
import Derived.Test.YtffaefjkpipjnaaGreatDoorPkC26
import Derived.Test.YtffaefjkpipjnaaGreatDoorPkC21
import Derived.Test.YtffaefjkpipjnaaGreatDoorPkC16
import Derived.Test.YtffaefjkpipjnaaGreatDoorPkC13
import Derived.Test.YtffaefjkpipjnaaGreatDoorPkC12
import Derived.Deep.RegionHeld3
import Derived.Deep.CutBlock
import Derived.Test.YtffaefjkpipjnaaGreatDoorPkC19
namespace Go.Proofs.YtffaefjkpipjnaaGreatDoor
set_option maxRecDepth 100000
open Go.RowKit Go.ChangeShapes Go.WideShapes
set_option linter.unusedVariables false
theorem Atanh_z {w:World}{v u:Value}{A B s:Nat}(h:Num w v A) (k:Num w u B) (hT:Tab w) (s1:8≤s) (s2:s≤9000) (sA:bitN A≤4096) (sB:bitN B≤4096) (hB:0<B) (h3:3*A≤B):
 Calls Tryz.prog 64 #[v,u,.int .i64 (s:Int)] w fun e w'=>∃vl vh L H,e= .returned (.tuple #[vl,vh,.int .i64 0])∧RdN w' vl (digs BB L)∧RdN w' vh (digs BB H)∧AtOk A B s L H∧AtDet A B s L H∧Below w.heap.size w w':=by
 by_cases hA:A=0
 ·subst hA
  refine(Atanh_zero h k s1 s2 sB hB).mono ?_
  rintro e w' ⟨rfl,hb⟩
  exact⟨_,_,0,0,rfl,RdN.nil0 _,RdN.nil0 _,atOk_zero (by omega),AtDet.zero,hb⟩
 ·refine(Atanh_det h k hT s1 s2 sA sB hA hB h3).mono ?_
  rintro e w' ⟨vl,vh,L,H,rfl,h1,h2,⟨h3,h5⟩,h4⟩
  exact⟨vl,vh,L,H,rfl,h1,h2,h3,h5,h4⟩
def LogDet (d lo hi:Dn) (s:Nat):Prop:=∃L H L2 H2,AtDet (nearN d.m) (d.m+nearP d.m) s L H∧AtDet 1 3 s L2 H2∧
 addQ (bareD (endLo (decide (d.m<nearP d.m)) (L*2) (H*2) s)) (bareD (endLo (decide (nearE d.m d.e<0)) ((L2+L2)*(nearE d.m d.e).natAbs) ((H2+H2)*(nearE d.m d.e).natAbs) s))=(lo.neg,lo.m,lo.e,0)∧
 addQ (bareD (endHi (decide (d.m<nearP d.m)) (L*2) (H*2) s)) (bareD (endHi (decide (nearE d.m d.e<0)) ((L2+L2)*(nearE d.m d.e).natAbs) ((H2+H2)*(nearE d.m d.e).natAbs) s))=(hi.neg,hi.m,hi.e,0)
theorem near_bits {M:Nat}(h:M≠0) (sM:bitN M≤4000):bitN (nearN M)≤4096∧bitN (M+nearP M)≤4096:=by
 obtain⟨h1,h2⟩:=topn_le h
 have h3:=bitN_lt M
 have h4:2^bitN M=2^(bitN M-1)+2^(bitN M-1):=by
  have:bitN M≠0:=fun e=>by rw[e]at h3;omega
  rw[show bitN M=bitN M-1+1 by omega,Nat.pow_succ,Nat.add_sub_cancel];omega
 have hb:∀x,x≤4*2^bitN M→bitN x≤4096:=fun x hx=>Nat.le_trans (bitN_le.2 (show x<2^(bitN M+3)by rw[Nat.pow_add];omega)) (by omega)
 constructor
 ·refine hb _ ?_
  unfold nearN nearP
  (repeat' split)<;>omega
 ·refine hb _ ?_
  unfold nearP
  split<;>omega
theorem Blk.lo6 {w:World}{b:Nat}{x0 x1 x2 x3 x4 x5:Value}(h:Blk w b #[x0,x1,x2,x3,x4,x5]) (y0 y1 y2:Value):Blk (((w.setCell ⟨b,0,none⟩ y0).setCell ⟨b,1,none⟩ y1).setCell ⟨b,2,none⟩ y2) b #[y0,y1,y2,x3,x4,x5]:=by
 obtain⟨h1,T,h2⟩:=h
 exact⟨by simpa[World.setCell]using h1,T,heap_setC (heap_setC (heap_setC h2 y0) y1) y2⟩
theorem Blk.hi6 {w:World}{b:Nat}{x0 x1 x2 x3 x4 x5:Value}(h:Blk w b #[x0,x1,x2,x3,x4,x5]) (y3 y4 y5:Value):Blk (((w.setCell ⟨b,3,none⟩ y3).setCell ⟨b,4,none⟩ y4).setCell ⟨b,5,none⟩ y5) b #[x0,x1,x2,y3,y4,y5]:=by
 obtain⟨h1,T,h2⟩:=h
 exact⟨by simpa[World.setCell]using h1,T,heap_setC (heap_setC (heap_setC h2 y3) y4) y5⟩
theorem Blk.otherhi {w:World}{b b':Nat}{c:Array Value}(h:Blk w b c) (hne:b≠b') (x y z:Value):Blk (((w.setCell ⟨b',3,none⟩ x).setCell ⟨b',4,none⟩ y).setCell ⟨b',5,none⟩ z) b c:=by
 obtain⟨h1,T,h2⟩:=h
 exact⟨by simpa[World.setCell]using h1,T,heap_setO (heap_setO (heap_setO h2 x hne) y hne) z hne⟩
theorem below_sethi {D W:World}(h:Below D.heap.size D W) {b:Nat}(hb:D.heap.size≤b) (x y z:Value):Below D.heap.size D (((W.setCell ⟨b,3,none⟩ x).setCell ⟨b,4,none⟩ y).setCell ⟨b,5,none⟩ z):=
 below_set (below_set (below_set h hb x) hb y) hb z
theorem RdN.hi6 {w:World}{v:Value}{l:List Nat}{b:Nat}{c:Array Value}(h:RdN w v l) (hB:Blk w b c) (hc:∀x∈c.toList,∀n:Nat,x≠L64 n) (x y z:Value):
 RdN (((w.setCell ⟨b,3,none⟩ x).setCell ⟨b,4,none⟩ y).setCell ⟨b,5,none⟩ z) v l:=by
 have h2:=(h.away hB hc).keep (S:=fun g=>g=b) ((((Fr.refl (fun g=>g=b) w).setCell (p:=⟨b,3,none⟩) rfl x).setCell (p:=⟨b,4,none⟩) rfl y).setCell (p:=⟨b,5,none⟩) rfl z) (fun _ h=>h)
 exact h2.mono (fun _ _ _=>trivial)
set_option maxRecDepth 100000 in
set_option maxHeartbeats 4000000 in
theorem Log_ok {w:World}{v:Value}{neg:Bool}{M M' s:Nat}{E E':Int}(h:Num w v M) (hT:Tab w) (h1: -9223372036854775808≤E) (h2:E≤9223372036854775807)
 (q:bareD ⟨neg,M,E⟩=⟨false,M',E'⟩) (hf:fitsE E'=true) (h0:M'≠0) (sM:bitN M'≤4000) (t1: -1048576≤topD ⟨false,M',E'⟩) (t2:topD ⟨false,M',E'⟩≤1048576) (s1:8≤s) (s2:s≤9000):
 Calls Tryz.prog 35 #[.agg #[.bool neg,v,.int .i64 E],.int .i64 (s:Int)] w (fun r w'=>∃lo hi x y,r= .returned (.tuple #[.agg #[.bool lo.neg,x,.int .i64 lo.e,.bool hi.neg,y,.int .i64 hi.e],.int .i64 0])∧(LogOk ⟨false,M',E'⟩ lo hi s∧LogDet ⟨false,M',E'⟩ lo hi s)∧RdN w' x (digs BB lo.m)∧RdN w' y (digs BB hi.m)∧Below w.heap.size w w'):=by
 obtain⟨a,n,k,rfl⟩:=h.slice
 obtain⟨sN,sD⟩:=near_bits h0 sM
 obtain⟨n3,nP⟩:=near_third h0
 obtain⟨tt1,tt2⟩:=near_top (M:=M') (E:=E')
 obtain⟨N,hN⟩:∃N,nearN M'=N:=⟨_,rfl⟩
 obtain⟨D,hD⟩:∃D,M'+nearP M'=D:=⟨_,rfl⟩
 obtain⟨ng,hg⟩:∃ng,decide (M'<nearP M')=ng:=⟨_,rfl⟩
 obtain⟨e,he⟩:∃e,nearE M' E'=e:=⟨_,rfl⟩
 obtain⟨eg,heg⟩:∃eg,decide (e<0)=eg:=⟨_,rfl⟩
 obtain⟨na,hna⟩:∃na,e.natAbs=na:=⟨_,rfl⟩
 have HNR:=Lib.hid (fun w v (h:Num w v M) (hT:Tab w)=>Near_ok h hT h1 h2 q hf h0 sM t1 t2 hN hD hg he)
 rw[hN]at sN n3
 rw[hD]at sD n3
 rw[he]at tt1 tt2
 have HAT:=Lib.hid (fun(w:World) v u (h:Num w v N) (k:Num w u D) (hT:Tab w)=>Atanh_z h k hT s1 s2 sN sD (by omega) n3)
 have KA:=Lib.hid (fun L H (o:AtOk N D s L H)=>And.intro (o.bits s1 s2) (And.intro o.le (at_size o s2)))
 have K3:=Lib.hid (fun L H (o:AtOk 1 3 s L H)=>And.intro (o.bits s1 s2) (And.intro o.le (at_size o s2)))
 have HL2:=Lib.hid (fun(w:World) (hT:Tab w)=>ln2_det (w:=w) hT s1 s2)
 have HT2:Hid (∀w v u L H,Num w v L→Num w u H→Tab w→bitN L≤20000→bitN H≤20000→Calls Tryz.prog 65 #[v,u,.int .i64 2] w fun e w'=>∃a c i j m o,e= .returned (.agg #[.slice a c i,.slice j m o,.bool false])∧RdN w' (.slice a c i) (digs BB (L*2))∧RdN w' (.slice j m o) (digs BB (H*2))∧Below w.heap.size w w'):=Lib.hid (fun w v u L H h k hT b1 b2=>times_p (n:=2) (N:=2) h k hT (by omega) (by omega) rfl rfl (by omega) (by omega) rfl rfl)
 have HTE:Hid (∀w v u L H,Num w v L→Num w u H→Tab w→bitN L≤30000→bitN H≤30000→Calls Tryz.prog 65 #[v,u,.int .i64 e] w fun r w'=>∃a c i j m o,r= .returned (.agg #[.slice a c i,.slice j m o,.bool eg])∧RdN w' (.slice a c i) (digs BB (L*na))∧RdN w' (.slice j m o) (digs BB (H*na))∧Below w.heap.size w w'):=Lib.hid (fun w v u L H h k hT b1 b2=>times_p (n:=e) (N:=na) h k hT (by omega) (by omega) hna heg (by omega) (by omega) rfl rfl)
 have HLK:Hid (∀L H L2 H2,AtOk N D s L H→AtDet N D s L H→AtOk 1 3 s L2 H2→AtDet 1 3 s L2 H2→∃lo hi:Dn,addQ (bareD (endLo ng (L*2) (H*2) s)) (bareD (endLo eg ((L2+L2)*na) ((H2+H2)*na) s))=(lo.neg,lo.m,lo.e,0)∧addQ (bareD (endHi ng (L*2) (H*2) s)) (bareD (endHi eg ((L2+L2)*na) ((H2+H2)*na) s))=(hi.neg,hi.m,hi.e,0)∧LogOk ⟨false,M',E'⟩ lo hi s∧LogDet ⟨false,M',E'⟩ lo hi s):=Lib.hid (fun L H L2 H2 o od o2 o2d=>by
  obtain⟨lo,hi,a1,a2,ok⟩:=log_ok (n:=na) (ng:=ng) (eg:=eg) h0 s1 s2 t1 t2 (by rw[hN,hD];exact o) (by
   intro hz
   rw[hN]at hz
   subst hz
   exact od.uniq AtDet.zero) o2 (by rw[he];exact hna) hg (by rw[he];exact heg)
  refine⟨lo,hi,a1,a2,ok,L,H,L2,H2,?_,o2d,?_,?_⟩
  ·show AtDet (nearN M') (M'+nearP M') s L H
   rw[hN,hD];exact od
  ·show addQ (bareD (endLo (decide (M'<nearP M')) (L*2) (H*2) s)) (bareD (endLo (decide (nearE M' E'<0)) ((L2+L2)*(nearE M' E').natAbs) ((H2+H2)*(nearE M' E').natAbs) s))=_
   rw[hg,he,heg,hna];exact a1
  ·show addQ (bareD (endHi (decide (M'<nearP M')) (L*2) (H*2) s)) (bareD (endHi (decide (nearE M' E'<0)) ((L2+L2)*(nearE M' E').natAbs) ((H2+H2)*(nearE M' E').natAbs) s))=_
   rw[hg,he,heg,hna];exact a2)
 have hg0:=hT.lt
 have hna2:na≤1048578:=by omega
 clear q hf h0 sM t1 t2 n3 nP tt1 tt2 hN hD hg he heg hna
 go_enter Tryz.func35,Tryz.ntmps35
 go_upto_region 8 with
  (first
    |(go_at_call 63;(with_reducible refine(HNR.out _ _ (h.below below_2) (hT.below below_2)).mono ?_);rintro e w1 ⟨vx,vy,rfl,x1,y1,hb1⟩;have B1:=below_2.trans (hb1.mono below_2.size);have p1:=((h.below below_2)).below hb1;have T1:=((hT.below below_2)).below hb1;have P1:=((blk_a1)).below hb1;have R1:=((blk_a2)).below hb1;obtain⟨cP0_1,cP1_1,cP2_1,fP0_1,fP1_1,fP2_1,sP_1⟩:=P1.open3;obtain⟨cR0_1,cR1_1,cR2_1,cR3_1,cR4_1,cR5_1,fR0_1,fR1_1,fR2_1,fR3_1,fR4_1,fR5_1,sR_1⟩:=R1.open6)
    |(go_at_call 64;(with_reducible refine(HAT.out _ _ _ (x1.num (by omega)) (y1.num (by omega)) T1).mono ?_);rintro e w2 ⟨vl,vh,L,H,rfl,l2,g2,o1,z1,hb2⟩;have B2:=B1.trans (hb2.mono B1.size);have p2:=p1.below hb2;have T2:=T1.below hb2;have P2:=P1.below hb2;have R2:=R1.below hb2;have x2:=x1.below hb2;have y2:=y1.below hb2;clear p1 T1 P1 R1 x1 y1;clear cP0_1 cP1_1 cP2_1 fP0_1 fP1_1 fP2_1 sP_1;obtain⟨cP0_2,cP1_2,cP2_2,fP0_2,fP1_2,fP2_2,sP_2⟩:=P2.open3;clear cR0_1 cR1_1 cR2_1 cR3_1 cR4_1 cR5_1 fR0_1 fR1_1 fR2_1 fR3_1 fR4_1 fR5_1 sR_1;obtain⟨cR0_2,cR1_2,cR2_2,cR3_2,cR4_2,cR5_2,fR0_2,fR1_2,fR2_2,fR3_2,fR4_2,fR5_2,sR_2⟩:=R2.open6;obtain⟨⟨b1,b2⟩,le1,le2⟩:=KA.out _ _ o1)
    |(go_at_call 65;(with_reducible refine(HT2.out _ _ _ _ _ (l2.num (by omega)) (g2.num (by omega)) T2 b1 b2).mono ?_);rintro e w3 ⟨qa,qb,qc,qd,qe,qf,rfl,c3,d3,hb3⟩;have B3:=B2.trans (hb3.mono B2.size);have p3:=p2.below hb3;have T3:=T2.below hb3;have P3:=P2.below hb3;have R3:=R2.below hb3;have x3:=x2.below hb3;have y3:=y2.below hb3;have l3:=l2.below hb3;have g3:=g2.below hb3;clear p2 T2 P2 R2 x2 y2 l2 g2;clear cP0_2 cP1_2 cP2_2 fP0_2 fP1_2 fP2_2 sP_2;obtain⟨cP0_3,cP1_3,cP2_3,fP0_3,fP1_3,fP2_3,sP_3⟩:=P3.open3;clear cR0_2 cR1_2 cR2_2 cR3_2 cR4_2 cR5_2 fR0_2 fR1_2 fR2_2 fR3_2 fR4_2 fR5_2 sR_2;obtain⟨cR0_3,cR1_3,cR2_3,cR3_3,cR4_3,cR5_3,fR0_3,fR1_3,fR2_3,fR3_3,fR4_3,fR5_3,sR_3⟩:=R3.open6)
    |fail)
 have l3:w.heap.size+1<w3.heap.size:=R3.1
 have Q4:Blk (w3.alloc (.cells #[.slice qa qb qc,.slice qd qe qf,.bool ng] 118 (0,0))) w3.heap.size #[.slice qa qb qc,.slice qd qe qf,.bool ng]:=blk_new
 have c4:=c3.below (below_alloc w3 (.cells #[.slice qa qb qc,.slice qd qe qf,.bool ng] 118 (0,0)))
 have d4:=d3.below (below_alloc w3 (.cells #[.slice qa qb qc,.slice qd qe qf,.bool ng] 118 (0,0)))
 have R4:=R3.below (below_alloc w3 (.cells #[.slice qa qb qc,.slice qd qe qf,.bool ng] 118 (0,0)))
 have T4:=T3.below (below_alloc w3 (.cells #[.slice qa qb qc,.slice qd qe qf,.bool ng] 118 (0,0)))
 have B4:=B3.alloc B3.size (.cells #[.slice qa qb qc,.slice qd qe qf,.bool ng] 118 (0,0))
 go_upto_region 9 with fail
 clear p3 x3 y3 l3 g3 c3 d3 P3 R3 T3 B3 cP0_3 cP1_3 cP2_3 fP0_3 fP1_3 fP2_3 sP_3 cR0_3 cR1_3 cR2_3 cR3_3 cR4_3 cR5_3 fR0_3 fR1_3 fR2_3 fR3_3 fR4_3 fR5_3 sR_3
 generalize w3.alloc (.cells #[.slice qa qb qc,.slice qd qe qf,.bool ng] 118 (0,0))=w4 at*
 generalize w3.heap.size=bq at*
 obtain⟨⟨n1,m1,e1⟩,q1⟩:∃d,bareD (endLo ng (L*2) (H*2) s)=d:=⟨_,rfl⟩
 obtain⟨⟨n2,m2,e2⟩,q2⟩:∃d,bareD (endHi ng (L*2) (H*2) s)=d:=⟨_,rfl⟩
 have HE1:=Lib.hid (fun(w:World) (h:RdN w (.slice qa qb qc) (digs BB (L*2))) (k:RdN w (.slice qd qe qf) (digs BB (H*2))) (hT:Tab w)=>ends_p h k hT (Nat.mul_le_mul_right _ le1) (by omega) s2 q1 q2)
 obtain⟨cQ0_4,cQ1_4,cQ2_4,fQ0_4,fQ1_4,fQ2_4,sQ_4⟩:=Q4.open3
 go_upto_region 10 with
  (first
    |(go_at_call 66;(with_reducible refine(HL2.out _ T4).mono ?_);rintro e w5 ⟨vp,vq,L2,H2,rfl,p5,q5,o2,hb5⟩;have B5:=B4.trans (hb5.mono B4.size);have c5:=c4.below hb5;have d5:=d4.below hb5;have R5:=R4.below hb5;have Q5:=Q4.below hb5;have T5:=T4.below hb5;clear c4 d4 R4 Q4 T4;obtain⟨cR0_5,cR1_5,cR2_5,cR3_5,cR4_5,cR5_5,fR0_5,fR1_5,fR2_5,fR3_5,fR4_5,fR5_5,sR_5⟩:=R5.open6;obtain⟨cQ0_5,cQ1_5,cQ2_5,fQ0_5,fQ1_5,fQ2_5,sQ_5⟩:=Q5.open3;obtain⟨⟨b3,b4⟩,le3,le4⟩:=K3.out _ _ o2.1)
    |fail)
 obtain⟨lo,hi,a1,a2,ok⟩:=HLK.out _ _ _ _ o1 z1 o2.1 o2.2
 obtain⟨⟨n3,m3,e3⟩,q3⟩:∃d,bareD (endLo eg ((L2+L2)*na) ((H2+H2)*na) s)=d:=⟨_,rfl⟩
 obtain⟨⟨n4,m4,e4⟩,q4⟩:∃d,bareD (endHi eg ((L2+L2)*na) ((H2+H2)*na) s)=d:=⟨_,rfl⟩
 have bn:bitN na≤21:=Nat.le_trans (bitN_mono hna2) pow20
 have sH2':bitN ((H2+H2)*na)≤s+60:=by
  refine Nat.le_trans (bitN_mul_le _ _) ?_
  rw[show H2+H2=H2*2 by omega];omega
 have sH2:bitN ((H2+H2)*na)≤30000:=by omega
 have md1:=((endLo_mid (neg:=ng) (s:=s) (Nat.mul_le_mul_right 2 le1) s2 (by omega)).bare (by omega) (by omega)).1
 have md2:=((endHi_mid (neg:=ng) (s:=s) (Nat.mul_le_mul_right 2 le1) s2 (by omega)).bare (by omega) (by omega)).1
 have md3:=((endLo_mid (neg:=eg) (s:=s) (Nat.mul_le_mul_right na (show L2+L2≤H2+H2 by omega)) s2 sH2').bare (by omega) (by omega)).1
 have md4:=((endHi_mid (neg:=eg) (s:=s) (Nat.mul_le_mul_right na (show L2+L2≤H2+H2 by omega)) s2 sH2').bare (by omega) (by omega)).1
 rw[q1]at md1
 rw[q2]at md2
 rw[q3]at md3
 rw[q4]at md4
 rw[q1,q3]at a1
 rw[q2,q4]at a2
 have HA1:=Lib.hid (fun(w:World) v u (h:RdN w v (digs BB m1)) (k:RdN w u (digs BB m3)) (hT:Tab w)=>Add_n (h.num (by have:=md1.bits;simp only at this;omega)) (k.num (by have:=md3.bits;simp only at this;omega)) hT (by have:=md1.1;simp only at this;omega) (by have:=md1.2.1;simp only at this;omega) (by have:=md3.1;simp only at this;omega) (by have:=md3.2.1;simp only at this;omega) a1)
 have HA2:=Lib.hid (fun(w:World) v u (h:RdN w v (digs BB m2)) (k:RdN w u (digs BB m4)) (hT:Tab w)=>Add_n (h.num (by have:=md2.bits;simp only at this;omega)) (k.num (by have:=md4.bits;simp only at this;omega)) hT (by have:=md2.1;simp only at this;omega) (by have:=md2.2.1;simp only at this;omega) (by have:=md4.1;simp only at this;omega) (by have:=md4.2.1;simp only at this;omega) a2)
 have sH3:bitN (H2+H2)≤30000:=by rw[show H2+H2=H2*2 by omega];omega
 have sL2:bitN (L2+L2)≤30000:=Nat.le_trans (bitN_mono (show L2+L2≤H2+H2 by omega)) sH3
 have HE2:=Lib.hid (fun(w:World) a b c d e f (h:RdN w (.slice a b c) (digs BB ((L2+L2)*na))) (k:RdN w (.slice d e f) (digs BB ((H2+H2)*na))) (hT:Tab w)=>ends_p h k hT (Nat.mul_le_mul_right _ (by omega)) (by omega) s2 q3 q4)
 go_upto_region 12 with
  (first
    |(go_at_call 67;(with_reducible refine(HE1.out _ c5 d5 T5).mono ?_);rintro e w21 ⟨vf,vi,rfl,f21,i21,hb21⟩;have B21:=B5.trans (hb21.mono B5.size);have c21:=c5.below hb21;have d21:=d5.below hb21;have p21:=p5.below hb21;have q21:=q5.below hb21;have R21:=R5.below hb21;have Q21:=Q5.below hb21;have T21:=T5.below hb21;clear c5 d5 p5 q5 R5 Q5 T5;obtain⟨cR0_21,cR1_21,cR2_21,cR3_21,cR4_21,cR5_21,fR0_21,fR1_21,fR2_21,fR3_21,fR4_21,fR5_21,sR_21⟩:=R21.open6;obtain⟨cQ0_21,cQ1_21,cQ2_21,fQ0_21,fQ1_21,fQ2_21,sQ_21⟩:=Q21.open3;obtain⟨af21,kf21,rfl,-⟩:=f21.view;(try simp only[List.length_nil]at f21);obtain⟨ai21,ki21,rfl,-⟩:=i21.view;try simp only[List.length_nil]at i21)
    |(go_at_call 65;(with_reducible refine(HTE.out _ _ _ _ _ (p21.num (by omega)) (q21.num (by omega)) T21 sL2 sH3).mono ?_);rintro e w22 ⟨ra,rb,rc,rd,re,rf,rfl,r22,u22,hb22⟩;have B22:=B21.trans (hb22.mono B21.size);have c22:=c21.below hb22;have d22:=d21.below hb22;have p22:=p21.below hb22;have q22:=q21.below hb22;have R22:=R21.below hb22;have Q22:=Q21.below hb22;have T22:=T21.below hb22;have f22:=f21.below hb22;have i22:=i21.below hb22;clear c21 d21 p21 q21 R21 Q21 T21 f21 i21;clear cR0_21 cR1_21 cR2_21 cR3_21 cR4_21 cR5_21 fR0_21 fR1_21 fR2_21 fR3_21 fR4_21 fR5_21 sR_21;obtain⟨cR0_22,cR1_22,cR2_22,cR3_22,cR4_22,cR5_22,fR0_22,fR1_22,fR2_22,fR3_22,fR4_22,fR5_22,sR_22⟩:=R22.open6;clear cQ0_21 cQ1_21 cQ2_21 fQ0_21 fQ1_21 fQ2_21 sQ_21;obtain⟨cQ0_22,cQ1_22,cQ2_22,fQ0_22,fQ1_22,fQ2_22,sQ_22⟩:=Q22.open3)
    |(go_at_call 67;(with_reducible refine(HE2.out _ _ _ _ _ _ _ r22 u22 T22).mono ?_);rintro e w23 ⟨vj,vo,rfl,j23,o23,hb23⟩;have B23:=B22.trans (hb23.mono B22.size);have c23:=c22.below hb23;have d23:=d22.below hb23;have p23:=p22.below hb23;have q23:=q22.below hb23;have R23:=R22.below hb23;have Q23:=Q22.below hb23;have T23:=T22.below hb23;have f23:=f22.below hb23;have i23:=i22.below hb23;have r23:=r22.below hb23;have u23:=u22.below hb23;clear c22 d22 p22 q22 R22 Q22 T22 f22 i22 r22 u22;clear cR0_22 cR1_22 cR2_22 cR3_22 cR4_22 cR5_22 fR0_22 fR1_22 fR2_22 fR3_22 fR4_22 fR5_22 sR_22;obtain⟨cR0_23,cR1_23,cR2_23,cR3_23,cR4_23,cR5_23,fR0_23,fR1_23,fR2_23,fR3_23,fR4_23,fR5_23,sR_23⟩:=R23.open6;clear cQ0_22 cQ1_22 cQ2_22 fQ0_22 fQ1_22 fQ2_22 sQ_22;obtain⟨cQ0_23,cQ1_23,cQ2_23,fQ0_23,fQ1_23,fQ2_23,sQ_23⟩:=Q23.open3;obtain⟨aj23,kj23,rfl,-⟩:=j23.view;(try simp only[List.length_nil]at j23);obtain⟨ao23,ko23,rfl,-⟩:=o23.view;try simp only[List.length_nil]at o23)
    |fail)
 have l23:w.heap.size+1<w23.heap.size:=R23.1
 have X4:Blk (((w23.alloc (.cells #[.bool n1,.slice af21 (digs BB m1).length kf21,.int .i64 e1,.bool n2,.slice ai21 (digs BB m2).length ki21,.int .i64 e2] 70 (0,0))).alloc (.cells #[.bool n3,.slice aj23 (digs BB m3).length kj23,.int .i64 e3,.bool n4,.slice ao23 (digs BB m4).length ko23,.int .i64 e4] 70 (0,0))).alloc (.cells #[.bool false,.slice none 0 0,.int .i64 0,.bool false,.slice none 0 0,.int .i64 0] 70 (0,0))) w23.heap.size #[.bool n1,.slice af21 (digs BB m1).length kf21,.int .i64 e1,.bool n2,.slice ai21 (digs BB m2).length ki21,.int .i64 e2]:=blk3_1
 have Y4:Blk (((w23.alloc (.cells #[.bool n1,.slice af21 (digs BB m1).length kf21,.int .i64 e1,.bool n2,.slice ai21 (digs BB m2).length ki21,.int .i64 e2] 70 (0,0))).alloc (.cells #[.bool n3,.slice aj23 (digs BB m3).length kj23,.int .i64 e3,.bool n4,.slice ao23 (digs BB m4).length ko23,.int .i64 e4] 70 (0,0))).alloc (.cells #[.bool false,.slice none 0 0,.int .i64 0,.bool false,.slice none 0 0,.int .i64 0] 70 (0,0))) (w23.heap.size+1) #[.bool n3,.slice aj23 (digs BB m3).length kj23,.int .i64 e3,.bool n4,.slice ao23 (digs BB m4).length ko23,.int .i64 e4]:=blk3_2
 have Z4:Blk (((w23.alloc (.cells #[.bool n1,.slice af21 (digs BB m1).length kf21,.int .i64 e1,.bool n2,.slice ai21 (digs BB m2).length ki21,.int .i64 e2] 70 (0,0))).alloc (.cells #[.bool n3,.slice aj23 (digs BB m3).length kj23,.int .i64 e3,.bool n4,.slice ao23 (digs BB m4).length ko23,.int .i64 e4] 70 (0,0))).alloc (.cells #[.bool false,.slice none 0 0,.int .i64 0,.bool false,.slice none 0 0,.int .i64 0] 70 (0,0))) (w23.heap.size+1+1) #[.bool false,.slice none 0 0,.int .i64 0,.bool false,.slice none 0 0,.int .i64 0]:=blk3_3
 have f4:=f23.below (below_3 (o1:=(.cells #[.bool n1,.slice af21 (digs BB m1).length kf21,.int .i64 e1,.bool n2,.slice ai21 (digs BB m2).length ki21,.int .i64 e2] 70 (0,0))) (o2:=(.cells #[.bool n3,.slice aj23 (digs BB m3).length kj23,.int .i64 e3,.bool n4,.slice ao23 (digs BB m4).length ko23,.int .i64 e4] 70 (0,0))) (o3:=(.cells #[.bool false,.slice none 0 0,.int .i64 0,.bool false,.slice none 0 0,.int .i64 0] 70 (0,0))))
 have i4:=i23.below (below_3 (o1:=(.cells #[.bool n1,.slice af21 (digs BB m1).length kf21,.int .i64 e1,.bool n2,.slice ai21 (digs BB m2).length ki21,.int .i64 e2] 70 (0,0))) (o2:=(.cells #[.bool n3,.slice aj23 (digs BB m3).length kj23,.int .i64 e3,.bool n4,.slice ao23 (digs BB m4).length ko23,.int .i64 e4] 70 (0,0))) (o3:=(.cells #[.bool false,.slice none 0 0,.int .i64 0,.bool false,.slice none 0 0,.int .i64 0] 70 (0,0))))
 have j4:=j23.below (below_3 (o1:=(.cells #[.bool n1,.slice af21 (digs BB m1).length kf21,.int .i64 e1,.bool n2,.slice ai21 (digs BB m2).length ki21,.int .i64 e2] 70 (0,0))) (o2:=(.cells #[.bool n3,.slice aj23 (digs BB m3).length kj23,.int .i64 e3,.bool n4,.slice ao23 (digs BB m4).length ko23,.int .i64 e4] 70 (0,0))) (o3:=(.cells #[.bool false,.slice none 0 0,.int .i64 0,.bool false,.slice none 0 0,.int .i64 0] 70 (0,0))))
 have o4:=o23.below (below_3 (o1:=(.cells #[.bool n1,.slice af21 (digs BB m1).length kf21,.int .i64 e1,.bool n2,.slice ai21 (digs BB m2).length ki21,.int .i64 e2] 70 (0,0))) (o2:=(.cells #[.bool n3,.slice aj23 (digs BB m3).length kj23,.int .i64 e3,.bool n4,.slice ao23 (digs BB m4).length ko23,.int .i64 e4] 70 (0,0))) (o3:=(.cells #[.bool false,.slice none 0 0,.int .i64 0,.bool false,.slice none 0 0,.int .i64 0] 70 (0,0))))
 have R5:=R23.below (below_3 (o1:=(.cells #[.bool n1,.slice af21 (digs BB m1).length kf21,.int .i64 e1,.bool n2,.slice ai21 (digs BB m2).length ki21,.int .i64 e2] 70 (0,0))) (o2:=(.cells #[.bool n3,.slice aj23 (digs BB m3).length kj23,.int .i64 e3,.bool n4,.slice ao23 (digs BB m4).length ko23,.int .i64 e4] 70 (0,0))) (o3:=(.cells #[.bool false,.slice none 0 0,.int .i64 0,.bool false,.slice none 0 0,.int .i64 0] 70 (0,0))))
 have T5':=T23.below (below_3 (o1:=(.cells #[.bool n1,.slice af21 (digs BB m1).length kf21,.int .i64 e1,.bool n2,.slice ai21 (digs BB m2).length ki21,.int .i64 e2] 70 (0,0))) (o2:=(.cells #[.bool n3,.slice aj23 (digs BB m3).length kj23,.int .i64 e3,.bool n4,.slice ao23 (digs BB m4).length ko23,.int .i64 e4] 70 (0,0))) (o3:=(.cells #[.bool false,.slice none 0 0,.int .i64 0,.bool false,.slice none 0 0,.int .i64 0] 70 (0,0))))
 have B5':=B23.trans ((below_3 (o1:=(.cells #[.bool n1,.slice af21 (digs BB m1).length kf21,.int .i64 e1,.bool n2,.slice ai21 (digs BB m2).length ki21,.int .i64 e2] 70 (0,0))) (o2:=(.cells #[.bool n3,.slice aj23 (digs BB m3).length kj23,.int .i64 e3,.bool n4,.slice ao23 (digs BB m4).length ko23,.int .i64 e4] 70 (0,0))) (o3:=(.cells #[.bool false,.slice none 0 0,.int .i64 0,.bool false,.slice none 0 0,.int .i64 0] 70 (0,0)))).mono B23.size)
 clear f23 i23 j23 o23 r23 u23 c23 d23 p23 q23 R23 T23 B23 Q23 cQ0_23 cQ1_23 cQ2_23 fQ0_23 fQ1_23 fQ2_23 sQ_23 cR0_23 cR1_23 cR2_23 cR3_23 cR4_23 cR5_23 fR0_23 fR1_23 fR2_23 fR3_23 fR4_23 fR5_23 sR_23
 generalize ((w23.alloc (.cells #[.bool n1,.slice af21 (digs BB m1).length kf21,.int .i64 e1,.bool n2,.slice ai21 (digs BB m2).length ki21,.int .i64 e2] 70 (0,0))).alloc (.cells #[.bool n3,.slice aj23 (digs BB m3).length kj23,.int .i64 e3,.bool n4,.slice ao23 (digs BB m4).length ko23,.int .i64 e4] 70 (0,0))).alloc (.cells #[.bool false,.slice none 0 0,.int .i64 0,.bool false,.slice none 0 0,.int .i64 0] 70 (0,0))=w30 at*
 generalize w23.heap.size=bx at*
 obtain⟨cX0_9,cX1_9,cX2_9,cX3_9,cX4_9,cX5_9,fX0_9,fX1_9,fX2_9,fX3_9,fX4_9,fX5_9,sX_9⟩:=X4.open6
 obtain⟨cY0_9,cY1_9,cY2_9,cY3_9,cY4_9,cY5_9,fY0_9,fY1_9,fY2_9,fY3_9,fY4_9,fY5_9,sY_9⟩:=Y4.open6
 obtain⟨cZ0_9,cZ1_9,cZ2_9,cZ3_9,cZ4_9,cZ5_9,fZ0_9,fZ1_9,fZ2_9,fZ3_9,fZ4_9,fZ5_9,sZ_9⟩:=Z4.open6
 go_upto_region 13 with
  (first
    |(go_at_call 68;(with_reducible refine(HA1.out _ _ _ f4 j4 T5').mono ?_);rintro e w41 ⟨vs41,rfl,s41,hb41⟩;have B41:=B5'.trans (hb41.mono B5'.size);have f41:=f4.below hb41;have i41:=i4.below hb41;have j41:=j4.below hb41;have o41:=o4.below hb41;have X41:=X4.below hb41;have Y41:=Y4.below hb41;have Z41:=Z4.below hb41;have R41:=R5.below hb41;have T41:=(T5').below hb41;clear f4 i4 j4 o4 X4 Y4 Z4 R5;obtain⟨cX0_41,cX1_41,cX2_41,cX3_41,cX4_41,cX5_41,fX0_41,fX1_41,fX2_41,fX3_41,fX4_41,fX5_41,sX_41⟩:=X41.open6;obtain⟨cY0_41,cY1_41,cY2_41,cY3_41,cY4_41,cY5_41,fY0_41,fY1_41,fY2_41,fY3_41,fY4_41,fY5_41,sY_41⟩:=Y41.open6;obtain⟨cZ0_41,cZ1_41,cZ2_41,cZ3_41,cZ4_41,cZ5_41,fZ0_41,fZ1_41,fZ2_41,fZ3_41,fZ4_41,fZ5_41,sZ_41⟩:=Z41.open6;obtain⟨cR0_41,cR1_41,cR2_41,cR3_41,cR4_41,cR5_41,fR0_41,fR1_41,fR2_41,fR3_41,fR4_41,fR5_41,sR_41⟩:=R41.open6;obtain⟨as41,ks41,rfl,-⟩:=s41.view;try simp only[List.length_nil]at s41)
    |fail)
 have X5:=X41.other3 (show bx≠bx+1+1 by omega) (.bool lo.neg) (.slice as41 (digs BB lo.m).length ks41) (.int .i64 lo.e)
 have Y5:=Y41.other3 (show bx+1≠bx+1+1 by omega) (.bool lo.neg) (.slice as41 (digs BB lo.m).length ks41) (.int .i64 lo.e)
 have R6:=R41.other3 (show w.heap.size+1≠bx+1+1 by omega) (.bool lo.neg) (.slice as41 (digs BB lo.m).length ks41) (.int .i64 lo.e)
 have Z5:=Z41.lo6 (.bool lo.neg) (.slice as41 (digs BB lo.m).length ks41) (.int .i64 lo.e)
 have i5:=i41.set3 Z41 dcells6 (.bool lo.neg) (.slice as41 (digs BB lo.m).length ks41) (.int .i64 lo.e)
 have o5:=o41.set3 Z41 dcells6 (.bool lo.neg) (.slice as41 (digs BB lo.m).length ks41) (.int .i64 lo.e)
 have s5:=s41.set3 Z41 dcells6 (.bool lo.neg) (.slice as41 (digs BB lo.m).length ks41) (.int .i64 lo.e)
 have T6':=T41.set3 (show 0≠bx+1+1 by omega) (.bool lo.neg) (.slice as41 (digs BB lo.m).length ks41) (.int .i64 lo.e)
 have B6':=below_set3b B41 (show w.heap.size≤bx+1+1 by omega) (.bool lo.neg) (.slice as41 (digs BB lo.m).length ks41) (.int .i64 lo.e)
 clear f41 i41 j41 o41 s41 X41 Y41 Z41 R41 T41 B41 cX0_41 cX1_41 cX2_41 cX3_41 cX4_41 cX5_41 fX0_41 fX1_41 fX2_41 fX3_41 fX4_41 fX5_41 sX_41 cY0_41 cY1_41 cY2_41 cY3_41 cY4_41 cY5_41 fY0_41 fY1_41 fY2_41 fY3_41 fY4_41 fY5_41 sY_41 cZ0_41 cZ1_41 cZ2_41 cZ3_41 cZ4_41 cZ5_41 fZ0_41 fZ1_41 fZ2_41 fZ3_41 fZ4_41 fZ5_41 sZ_41 cR0_41 cR1_41 cR2_41 cR3_41 cR4_41 cR5_41 fR0_41 fR1_41 fR2_41 fR3_41 fR4_41 fR5_41 sR_41 cX0_9 cX1_9 cX2_9 cX3_9 cX4_9 cX5_9 fX0_9 fX1_9 fX2_9 fX3_9 fX4_9 fX5_9 sX_9 cY0_9 cY1_9 cY2_9 cY3_9 cY4_9 cY5_9 fY0_9 fY1_9 fY2_9 fY3_9 fY4_9 fY5_9 sY_9 cZ0_9 cZ1_9 cZ2_9 cZ3_9 cZ4_9 cZ5_9 fZ0_9 fZ1_9 fZ2_9 fZ3_9 fZ4_9 fZ5_9 sZ_9
 generalize ((w41.setCell ⟨bx+1+1,0,none⟩ (.bool lo.neg)).setCell ⟨bx+1+1,1,none⟩ (.slice as41 (digs BB lo.m).length ks41)).setCell ⟨bx+1+1,2,none⟩ (.int .i64 lo.e)=w42 at*
 obtain⟨cX0_9,cX1_9,cX2_9,cX3_9,cX4_9,cX5_9,fX0_9,fX1_9,fX2_9,fX3_9,fX4_9,fX5_9,sX_9⟩:=X5.open6
 obtain⟨cY0_9,cY1_9,cY2_9,cY3_9,cY4_9,cY5_9,fY0_9,fY1_9,fY2_9,fY3_9,fY4_9,fY5_9,sY_9⟩:=Y5.open6
 obtain⟨cZ0_9,cZ1_9,cZ2_9,cZ3_9,cZ4_9,cZ5_9,fZ0_9,fZ1_9,fZ2_9,fZ3_9,fZ4_9,fZ5_9,sZ_9⟩:=Z5.open6
 go_upto_region 14 with
  (first
    |(go_at_call 68;(with_reducible refine(HA2.out _ _ _ i5 o5 T6').mono ?_);rintro e w51 ⟨vt51,rfl,t51,hb51⟩;have B51:=B6'.trans (hb51.mono B6'.size);have i51:=i5.below hb51;have o51:=o5.below hb51;have s51:=s5.below hb51;have X51:=X5.below hb51;have Y51:=Y5.below hb51;have Z51:=Z5.below hb51;have R51:=R6.below hb51;have T51:=(T6').below hb51;clear i5 o5 s5 X5 Y5 Z5 R6;obtain⟨cX0_51,cX1_51,cX2_51,cX3_51,cX4_51,cX5_51,fX0_51,fX1_51,fX2_51,fX3_51,fX4_51,fX5_51,sX_51⟩:=X51.open6;obtain⟨cY0_51,cY1_51,cY2_51,cY3_51,cY4_51,cY5_51,fY0_51,fY1_51,fY2_51,fY3_51,fY4_51,fY5_51,sY_51⟩:=Y51.open6;obtain⟨cZ0_51,cZ1_51,cZ2_51,cZ3_51,cZ4_51,cZ5_51,fZ0_51,fZ1_51,fZ2_51,fZ3_51,fZ4_51,fZ5_51,sZ_51⟩:=Z51.open6;obtain⟨cR0_51,cR1_51,cR2_51,cR3_51,cR4_51,cR5_51,fR0_51,fR1_51,fR2_51,fR3_51,fR4_51,fR5_51,sR_51⟩:=R51.open6;obtain⟨at51,kt51,rfl,-⟩:=t51.view;try simp only[List.length_nil]at t51)
    |fail)
 have R7:=R51.otherhi (show w.heap.size+1≠bx+1+1 by omega) (.bool hi.neg) (.slice at51 (digs BB hi.m).length kt51) (.int .i64 hi.e)
 have Z7:=Z51.hi6 (.bool hi.neg) (.slice at51 (digs BB hi.m).length kt51) (.int .i64 hi.e)
 have s7:=s51.hi6 Z51 dcells6 (.bool hi.neg) (.slice at51 (digs BB hi.m).length kt51) (.int .i64 hi.e)
 have t7:=t51.hi6 Z51 dcells6 (.bool hi.neg) (.slice at51 (digs BB hi.m).length kt51) (.int .i64 hi.e)
 have B7':=below_sethi B51 (show w.heap.size≤bx+1+1 by omega) (.bool hi.neg) (.slice at51 (digs BB hi.m).length kt51) (.int .i64 hi.e)
 clear i51 o51 s51 t51 X51 Y51 Z51 R51 T51 B51 cX0_51 cX1_51 cX2_51 cX3_51 cX4_51 cX5_51 fX0_51 fX1_51 fX2_51 fX3_51 fX4_51 fX5_51 sX_51 cY0_51 cY1_51 cY2_51 cY3_51 cY4_51 cY5_51 fY0_51 fY1_51 fY2_51 fY3_51 fY4_51 fY5_51 sY_51 cZ0_51 cZ1_51 cZ2_51 cZ3_51 cZ4_51 cZ5_51 fZ0_51 fZ1_51 fZ2_51 fZ3_51 fZ4_51 fZ5_51 sZ_51 cR0_51 cR1_51 cR2_51 cR3_51 cR4_51 cR5_51 fR0_51 fR1_51 fR2_51 fR3_51 fR4_51 fR5_51 sR_51 cX0_9 cX1_9 cX2_9 cX3_9 cX4_9 cX5_9 fX0_9 fX1_9 fX2_9 fX3_9 fX4_9 fX5_9 sX_9 cY0_9 cY1_9 cY2_9 cY3_9 cY4_9 cY5_9 fY0_9 fY1_9 fY2_9 fY3_9 fY4_9 fY5_9 sY_9 cZ0_9 cZ1_9 cZ2_9 cZ3_9 cZ4_9 cZ5_9 fZ0_9 fZ1_9 fZ2_9 fZ3_9 fZ4_9 fZ5_9 sZ_9
 generalize ((w51.setCell ⟨bx+1+1,3,none⟩ (.bool hi.neg)).setCell ⟨bx+1+1,4,none⟩ (.slice at51 (digs BB hi.m).length kt51)).setCell ⟨bx+1+1,5,none⟩ (.int .i64 hi.e)=w52 at*
 obtain⟨cZ0_9,cZ1_9,cZ2_9,cZ3_9,cZ4_9,cZ5_9,fZ0_9,fZ1_9,fZ2_9,fZ3_9,fZ4_9,fZ5_9,sZ_9⟩:=Z7.open6
 obtain⟨cR0_9,cR1_9,cR2_9,cR3_9,cR4_9,cR5_9,fR0_9,fR1_9,fR2_9,fR3_9,fR4_9,fR5_9,sR_9⟩:=R7.open6
 go_wp2_with fail
 obtain⟨z0,z1,z2,z3,z4,z5,-⟩:=(R7.set6 (.bool lo.neg) (.slice as41 (digs BB lo.m).length ks41) (.int .i64 lo.e) (.bool hi.neg) (.slice at51 (digs BB hi.m).length kt51) (.int .i64 hi.e)).open6
 refine bodyPost_ret (v:= .tuple #[.agg #[.bool lo.neg,.slice as41 (digs BB lo.m).length ks41,.int .i64 lo.e,.bool hi.neg,.slice at51 (digs BB hi.m).length kt51,.int .i64 hi.e],.int .i64 0]) ?_ rfl ?_
 ·simp[results,Tryz.results35,go_sem,z0,z1,z2,z3,z4,z5]
 ·exact⟨lo,hi,_,_,rfl,ok,s7.set6 R7 dcells6 _ _ _ _ _ _,t7.set6 R7 dcells6 _ _ _ _ _ _,below_set6 B7' (by omega) _ _ _ _ _ _⟩
end Go.Proofs.YtffaefjkpipjnaaGreatDoor
namespace Go.Proofs.YtffaefjkpipjnaaGreatDoor
set_option maxRecDepth 100000
open Go.RowKit Go.ChangeShapes Go.WideShapes
set_option linter.unusedVariables false
theorem nearOk_parts {d:Dn}{n':Bool}{M':Nat}{E':Int}(q:bareD d=⟨n',M',E'⟩) (h:nearOk d=true):n'=false∧fitsE E'=true∧M'≠0∧bitN M'≤4000∧-1048576≤topD ⟨n',M',E'⟩∧topD ⟨n',M',E'⟩≤1048576:=by
 unfold nearOk at h
 rw[q]at h
 simp only[Bool.and_eq_true,decide_eq_true_eq,Bool.not_eq_true']at h
 obtain⟨⟨⟨⟨⟨h1,h2⟩,h3⟩,h4⟩,h5⟩,h6⟩:=h
 exact⟨h2,h1,h3,h4,h5,h6⟩
end Go.Proofs.YtffaefjkpipjnaaGreatDoor
namespace Go.Proofs.YtffaefjkpipjnaaGreatDoor
set_option maxRecDepth 100000
open Go.RowKit Go.ChangeShapes Go.WideShapes
set_option linter.unusedVariables false
theorem Log_v {w:World}{v:Value}{neg:Bool}{M M' s:Nat}{E E':Int}(h:Num w v M) (hT:Tab w) (h1: -9223372036854775808≤E) (h2:E≤9223372036854775807)
 (q:bareD ⟨neg,M,E⟩=⟨false,M',E'⟩) (hn:nearOk ⟨neg,M,E⟩=true) (s1:8≤s) (s2:s≤9000):
 Calls Tryz.prog 35 #[.agg #[.bool neg,v,.int .i64 E],.int .i64 (s:Int)] w (fun r w'=>∃n1 m1 e1 n2 m2 e2 x y,r= .returned (.tuple #[.agg #[.bool n1,x,.int .i64 e1,.bool n2,y,.int .i64 e2],.int .i64 0])∧(LogOk ⟨false,M',E'⟩ ⟨n1,m1,e1⟩ ⟨n2,m2,e2⟩ s∧LogDet ⟨false,M',E'⟩ ⟨n1,m1,e1⟩ ⟨n2,m2,e2⟩ s)∧RdN w' x (digs BB m1)∧RdN w' y (digs BB m2)∧Below w.heap.size w w'):=by
 obtain⟨-,hf,h0,sM,t1,t2⟩:=nearOk_parts q hn
 refine(Log_ok h hT h1 h2 q hf h0 sM t1 t2 s1 s2).mono ?_
 rintro e w' ⟨⟨n1,m1,e1⟩,⟨n2,m2,e2⟩,x,y,rfl,h⟩
 exact⟨n1,m1,e1,n2,m2,e2,x,y,rfl,h⟩
end Go.Proofs.YtffaefjkpipjnaaGreatDoor

namespace Go.Proofs.YtffaefjkpipjnaaGreatDoor
set_option linter.unusedVariables false
set_option linter.unusedSimpArgs false
set_option maxRecDepth 100000
open Go.RowKit Go.ChangeShapes Go.WideShapes
theorem near_small {m:Nat}{e:Int}(h0:m≠0) (hm:bitN m≤4000) (h1: -1000000≤e) (h2:e≤1000000):nearOk ⟨false,m,e⟩=true:=by
 obtain⟨⟨n',M',E'⟩,q⟩:∃d,bareD ⟨false,m,e⟩=d:=⟨_,rfl⟩
 obtain⟨hf,r1,r2⟩:=bareD_fits q (by omega) (by omega) (by omega)
 have hb:=bareD_bits q
 have hl:=bitN_low2 h0
 unfold nearOk
 rw[q]
 rw[bareD_pos (show(⟨false,m,e⟩:Dn).m≠0 from h0)]at q
 injection q with q1 q2 q3
 dsimp only at q1 q2 q3
 subst q1
 have hM:M'≠0:=fun e=>by
  obtain⟨k,hk⟩:=low2_eq h0
  have:=odd_eq hk
  omega
 have hc:cutE e=e:=by unfold cutE;omega
 have hmp:bitN m≠0:=fun e=>h0 (eq_zero_of_bitN e)
 have ht:topD ⟨false,M',E'⟩=(bitN m:Int)-1+e:=by
  unfold topD
  dsimp only
  rw[←q2,←q3,hc]
  omega
 rw[ht]
 simp only[Bool.and_eq_true,decide_eq_true_eq,Bool.not_eq_true']
 exact⟨⟨⟨⟨⟨hf,trivial⟩,hM⟩,by omega⟩,by omega⟩,by omega⟩
theorem cells46 {w:World}{b:Nat}{x0 x1 x2 x3 x4 x5:Value}(h:Blk w b #[x0,x1,x2,x3,x4,x5]):w.cell? ⟨b,0,none⟩=some x0∧w.cell? ⟨b,1,none⟩=some x1∧w.cell? ⟨b,2,none⟩=some x2∧w.cell? ⟨b,3,none⟩=some x3∧w.cell? ⟨b,4,none⟩=some x4∧w.cell? ⟨b,5,none⟩=some x5:=
 ⟨h.open6.1,h.open6.2.1,h.open6.2.2.1,h.open6.2.2.2.1,h.open6.2.2.2.2.1,h.open6.2.2.2.2.2.1⟩
end Go.Proofs.YtffaefjkpipjnaaGreatDoor
