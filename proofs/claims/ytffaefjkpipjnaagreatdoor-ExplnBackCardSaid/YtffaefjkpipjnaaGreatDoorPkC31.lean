/- expln.Ln's closure by its contract. Conditions: the number is above nought and of a middle size. -/
import Derived.Test.YtffaefjkpipjnaaGreatDoorPkC30
import Derived.Test.YtffaefjkpipjnaaGreatDoorPkC28
import Derived.Test.YtffaefjkpipjnaaGreatDoorPkC23
import Derived.Test.YtffaefjkpipjnaaGreatDoorPkC22
import Derived.Test.YtffaefjkpipjnaaGreatDoorPkC24
import Derived.Test.YtffaefjkpipjnaaGreatDoorPkC25
namespace Go.Proofs.YtffaefjkpipjnaaGreatDoor
set_option linter.unusedVariables false
set_option linter.unusedSimpArgs false
set_option maxRecDepth 100000
open Go.RowKit Go.ChangeShapes Go.WideShapes
def IvLn (d:Dn) (neg:Bool) (n:Nat) (lo hi:Dn):Prop:=∃l h,LogOk d l h (n+128)∧qv lo=(if neg then-qv h else qv l)∧qv hi=(if neg then-qv l else qv h)
theorem mid_bare {lo hi:Dn}(a:Mid 10000 lo) (b:Mid 10000 hi) (qa:bareD lo=lo) (qb:bareD hi=hi):BareI lo hi:=by
 have:=a.bits;have:=b.bits
 obtain⟨a1,a2,a3⟩:=a
 obtain⟨b1,b2,b3⟩:=b
 exact⟨qa,qb,by unfold fitsE;simp;omega,by unfold fitsE;simp;omega,by omega,by omega⟩
set_option maxHeartbeats 600000 in
theorem ln1_n {w:World}{v:Value}{neg:Bool}{M n g g1:Nat}{E:Int}(h:RdN w v (digs BB M)) (hT:Tab w) (q:bareD ⟨false,M,E⟩=⟨false,M,E⟩) (h0:M≠0) (hm:Mid 1100 ⟨false,M,E⟩) (s2:n≤8192) (P:Blk w g #[.bool false,v,.int .i64 E]) (P1:Blk w g1 #[.bool neg]):
 Calls Tryz.prog 34 #[.int .i64 (n:Int),.pointer (some ⟨g,0,none⟩),.pointer (some ⟨g1,0,none⟩)] w (fun e w'=>∃n1 m1 f1 n2 m2 f2 x y,e= .returned (.tuple #[.agg #[.bool n1,x,.int .i64 f1,.bool n2,y,.int .i64 f2],.int .i64 0])∧
  (IvLn ⟨false,M,E⟩ neg n ⟨n1,m1,f1⟩ ⟨n2,m2,f2⟩∧BareI ⟨n1,m1,f1⟩ ⟨n2,m2,f2⟩)∧RdN w' x (digs BB m1)∧RdN w' y (digs BB m2)∧Below w.heap.size w w'):=by
 obtain⟨av,kv,rfl,-,-,-,-⟩:=h.view
 have sM:=hm.bits;have r1:=hm.1;have r2:=hm.2.1
 dsimp only at sM r1 r2
 have hn:=near_small (m:=M) (e:=E) h0 (by omega) (by omega) (by omega)
 have HL:=Lib.hid (fun w v (h:RdN w v (digs BB M)) (hT:Tab w)=>Log_v (s:=n+128) (h.num (by omega)) hT (by omega) (by omega) q hn (by omega) (by omega))
 rw[show(((n+128:Nat)):Int)=(n:Int)+128 from rfl]at HL
 have hw:IntKind.i64.wrap ((n:Int)+128)=((n+128:Nat):Int):=by rw[IntKind.wrap_i64];omega
 have B0:=below_alloc w (.cells #[.bool false,.slice none 0 0,.int .i64 0,.bool false,.slice none 0 0,.int .i64 0] 70 (0,0))
 have P0:=P.below B0
 have N0:=P1.below B0
 have R0:=blk_new (w:=w) (T:=70) (c:= #[.bool false,.slice none 0 0,.int .i64 0,.bool false,.slice none 0 0,.int .i64 0])
 have hg:=P.1
 have hg1:=P1.1
 clear q hn hm
 go_enter Tryz.func34,Tryz.ntmps34
 go_upto_region 1 with fail
 obtain⟨cP0,cP1,cP2,fP0,fP1,fP2,sP⟩:=P0.open3
 obtain⟨cN0,fN0,sN⟩:=N0.open1
 go_wp2_with
  (first
    |(go_at_call 35;(with_reducible refine(HL.out _ _ (h.below B0) (hT.below B0)).mono ?_);rintro e w1 ⟨n1,m1,e1,n2,m2,e2,xv,yv,rfl,⟨hO,-⟩,x1,y1,hb1⟩;have B1:=B0.trans (hb1.mono B0.size);have h1:=((h.below B0)).below hb1;have T1:=((hT.below B0)).below hb1;have R1:=R0.below hb1;have N1:=N0.below hb1;clear R0 N0;obtain⟨cR0_1,cR1_1,cR2_1,cR3_1,cR4_1,cR5_1,fR0_1,fR1_1,fR2_1,fR3_1,fR4_1,fR5_1,sR_1⟩:=R1.open6;obtain⟨cN0_1,fN0_1,sN_1⟩:=N1.open1;obtain⟨ax1,kx1,rfl,-⟩:=x1.view;(try simp only[List.length_nil]at x1);obtain⟨ay1,ky1,rfl,-⟩:=y1.view;try simp only[List.length_nil]at y1)
    |(go_at_call 36;(with_reducible refine(lsz_n (neg:=neg) (x1.below (below_alloc _ _)) (y1.below (below_alloc _ _)) (T1.below (below_alloc _ _)) hO.mLo hO.mHi (by decide) (by decide) hO.bLo hO.bHi).mono ?_);rintro e w2 ⟨n3,m3,e3,n4,m4,e4,uv,zv,rfl,hS,u2,z2,hb2⟩;have hb2':=(below_a hb2);have B2:=B1.trans (hb2'.mono B1.size);have h2:=h1.below hb2';have T2:=T1.below hb2';have R2:=R1.below hb2';have N2:=N1.below hb2';have x2:=x1.below hb2';have y2:=y1.below hb2';clear h1 T1 R1 N1 x1 y1;clear cR0_1 cR1_1 cR2_1 cR3_1 cR4_1 cR5_1 fR0_1 fR1_1 fR2_1 fR3_1 fR4_1 fR5_1 sR_1;obtain⟨cR0_2,cR1_2,cR2_2,cR3_2,cR4_2,cR5_2,fR0_2,fR1_2,fR2_2,fR3_2,fR4_2,fR5_2,sR_2⟩:=R2.open6;clear cN0_1 fN0_1 sN_1;obtain⟨cN0_2,fN0_2,sN_2⟩:=N2.open1;obtain⟨au2,ku2,rfl,-⟩:=u2.view;(try simp only[List.length_nil]at u2);obtain⟨az2,kz2,rfl,-⟩:=z2.view;try simp only[List.length_nil]at z2)
    |fail)
 obtain⟨q0,q1,q2,q3,q4,q5,-⟩:=(R2.set6 (.bool n3) (.slice au2 (digs BB m3).length ku2) (.int .i64 e3) (.bool n4) (.slice az2 (digs BB m4).length kz2) (.int .i64 e4)).open6
 obtain⟨s1,s2',⟨s3,s4⟩,s5,s6⟩:=hS
 refine bodyPost_ret (v:= .tuple #[.agg #[.bool n3,.slice au2 (digs BB m3).length ku2,.int .i64 e3,.bool n4,.slice az2 (digs BB m4).length kz2,.int .i64 e4],.int .i64 0]) (by simp[results,Tryz.results34,go_sem,q0,q1,q2,q3,q4,q5]) rfl ⟨_,_,_,_,_,_,_,_,rfl,⟨⟨_,_,hO,s1,s2'⟩,mid_bare s3 s5 s4 s6⟩,u2.set6 R2 dcells6 _ _ _ _ _ _,z2.set6 R2 dcells6 _ _ _ _ _ _,below_set6 B2 (by omega) _ _ _ _ _ _⟩
set_option maxHeartbeats 1000000 in
theorem run1_ln {w:World}{g0 g1 g2 n:Nat}{neg:Bool}{dir fr pt:Int}{Iv:Nat→Dn→Dn→Prop}{p0 p1:Value}(hT:Tab w) (d0:0≤dir) (d3:dir≤3) (P0:Blk w g0 #[.func (.func 34) #[] #[p0,p1]]) (P1:Blk w g1 #[.bool neg]) (P2:Blk w g2 #[.int .i64 dir,.int .i64 fr,.int .i64 pt,.pointer none])
 (HH:∀w',Below w.heap.size w w'→Calls Tryz.prog 34 #[.int .i64 (n:Int),p0,p1] w' (fun e w''=>∃n1 m1 f1 n2 m2 f2 x y,e= .returned (.tuple #[.agg #[.bool n1,x,.int .i64 f1,.bool n2,y,.int .i64 f2],.int .i64 0])∧(Iv n ⟨n1,m1,f1⟩ ⟨n2,m2,f2⟩∧BareI ⟨n1,m1,f1⟩ ⟨n2,m2,f2⟩)∧RdN w'' x (digs BB m1)∧RdN w'' y (digs BB m2)∧Below w'.heap.size w' w'')):
 Calls Tryz.prog 57 #[.int .i64 (n:Int),.pointer (some ⟨g0,0,none⟩),.pointer (some ⟨g1,0,none⟩),.pointer (some ⟨g2,0,none⟩)] w (fun e w'=>∃c ok,e= .returned (.tuple #[.agg c,.bool ok])∧AnsR (PRun Iv neg dir) w' c ok n∧Below w.heap.size w w'):=by
 have HH:=Lib.hid HH
 have B0:=below_alloc w (.cells #[.int .u64 0,.int .u8 0,.int .i64 0,.bool false,.slice none 0 0,.int .i64 0,.bool false,.slice none 0 0,.int .i64 0] 102)
 have R0:=blk_new (w:=w) (T:=102) (c:= #[.int .u64 0,.int .u8 0,.int .i64 0,.bool false,.slice none 0 0,.int .i64 0,.bool false,.slice none 0 0,.int .i64 0])
 have hw0:=P0.1
 have hw1:=P1.1
 have hw2:=P2.1
 have Q0:=P0.below B0
 have Q1:=P1.below B0
 have Q2:=P2.below B0
 go_enter Tryz.func57,Tryz.ntmps57
 go_upto_region 1 with fail
 have hT0:=hT.below B0
 have HH0:=Lib.hid (HH.out _ B0)
 generalize w.alloc (.cells #[.int .u64 0,.int .u8 0,.int .i64 0,.bool false,.slice none 0 0,.int .i64 0,.bool false,.slice none 0 0,.int .i64 0] 102)=w0 at*
 obtain⟨cq0,fq0,sq0⟩:=Q0.open1
 go_upto_region 2 with(first
  |(go_at_call 34;(with_reducible refine HH0.out.mono ?_);rintro e w1 ⟨n1,m1,f1,n2,m2,f2,xv,yv,rfl,⟨hI,hG⟩,x1,y1,HB⟩;obtain⟨ax1,kx1,rfl,-⟩:=x1.view;obtain⟨ay1,ky1,rfl,-⟩:=y1.view)
  |fail)
 have hI:=Lib.hid hI;have hG:=Lib.hid hG
 have hA7:=below_alloc w1 (.cells #[.bool n1,.slice ax1 (digs BB m1).length kx1,.int .i64 f1,.bool n2,.slice ay1 (digs BB m2).length ky1,.int .i64 f2] 70)
 have R7:Blk (w1.alloc (.cells #[.bool n1,.slice ax1 (digs BB m1).length kx1,.int .i64 f1,.bool n2,.slice ay1 (digs BB m2).length ky1,.int .i64 f2] 70)) w1.heap.size #[.bool n1,.slice ax1 (digs BB m1).length kx1,.int .i64 f1,.bool n2,.slice ay1 (digs BB m2).length ky1,.int .i64 f2]:=blk_new
 have T7:=(hT0.below HB).below hA7
 have Qa:=(Q1.below HB).below hA7
 have Qb:=(Q2.below HB).below hA7
 have R0a:=(R0.below HB).below hA7
 have x7:=x1.below hA7
 have y7:=y1.below hA7
 have B7:=(B0.trans (HB.mono B0.size)).trans (hA7.mono (Nat.le_trans B0.size HB.size))
 change Code.wp _ _ _ _ (w1.alloc (.cells #[.bool n1,.slice ax1 (digs BB m1).length kx1,.int .i64 f1,.bool n2,.slice ay1 (digs BB m2).length ky1,.int .i64 f2] 70))
 clear hT0 Q0 Q1 Q2 R0 x1 y1 B0 HH HH0 cq0 fq0 sq0 P0 P1 P2 hT
 generalize w1.alloc (.cells #[.bool n1,.slice ax1 (digs BB m1).length kx1,.int .i64 f1,.bool n2,.slice ay1 (digs BB m2).length ky1,.int .i64 f2] 70)=w7 at*
 generalize w1.heap.size=b7 at*
 have HR:=Lib.hid (dround_g (neg:=neg) x7 y7 T7 hG.out d0 d3)
 clear hA7 HB
 obtain⟨q0,q1,q2,q3,q4,q5,p0',p1',p2',p3',p4',p5',hb7⟩:=R7.open6
 obtain⟨ca,fa,sa⟩:=Qa.open1
 obtain⟨cb0,cb1,cb2,cb3,fb0,fb1,fb2,fb3,sb⟩:=Qb.open4
 go_upto_region 5 with(first
  |(go_at_call 58;(with_reducible refine HR.out.mono ?_);rintro e w8 ⟨b,f,ok,rfl,hdec,h8⟩)
  |fail)
 have R8:=R7.below h8
 have R0b:=R0a.below h8
 have x8:=x7.below h8
 have y8:=y7.below h8
 have B8:=B7.trans (h8.mono B7.size)
 have hdec:=Lib.hid hdec
 clear R7 R0a x7 y7 B7 h8 HR T7 Qa Qb ca fa sa cb0 cb1 cb2 cb3 fb0 fb1 fb2 fb3 sb q0 q1 q2 q3 q4 q5 p0' p1' p2' p3' p4' p5' hb7
 obtain⟨q0,q1,q2,q3,q4,q5,-⟩:=R8.open6
 obtain⟨s0,s1,s2,s3,s4,s5,s6,s7,s8,s9,s10,s11,s12,s13,s14,s15,s16,s17,s18⟩:=R0b.open9
 go_wp2_with fail
 have RZ:=R0b.set9 (L64 b) (.int .u8 f) (.int .i64 0) (.bool n1) (.slice ax1 (digs BB m1).length kx1) (.int .i64 f1) (.bool n2) (.slice ay1 (digs BB m2).length ky1) (.int .i64 f2)
 have FE:=Fr.set9 (w:=w8) (b:=w.heap.size) (L64 b) (.int .u8 f) (.int .i64 0) (.bool n1) (.slice ax1 (digs BB m1).length kx1) (.int .i64 f1) (.bool n2) (.slice ay1 (digs BB m2).length ky1) (.int .i64 f2)
 have X:Rd (fun g=>g≠w.heap.size) w8 (.slice ax1 (digs BB m1).length kx1) ((digs BB m1).map L64):=RdN.away0 x8 R0b zcells9
 have Y:Rd (fun g=>g≠w.heap.size) w8 (.slice ay1 (digs BB m2).length ky1) ((digs BB m2).map L64):=RdN.away0 y8 R0b zcells9
 have X2:=X.keep FE (fun _ h=>h)
 have Y2:=Y.keep FE (fun _ h=>h)
 have hBf:=B8.trans (FE.below B8.size (fun k hk e=>by omega))
 change bodyPost _ _ _ _ _ ((((((((((w8).setCell ⟨w.heap.size,0,none⟩ (L64 b)).setCell ⟨w.heap.size,1,none⟩ (.int .u8 f)).setCell ⟨w.heap.size,2,none⟩ (.int .i64 0)).setCell ⟨w.heap.size,3,none⟩ (.bool n1)).setCell ⟨w.heap.size,4,none⟩ (.slice ax1 (digs BB m1).length kx1)).setCell ⟨w.heap.size,5,none⟩ (.int .i64 f1)).setCell ⟨w.heap.size,6,none⟩ (.bool n2)).setCell ⟨w.heap.size,7,none⟩ (.slice ay1 (digs BB m2).length ky1)).setCell ⟨w.heap.size,8,none⟩ (.int .i64 f2))
 generalize (((((((((w8).setCell ⟨w.heap.size,0,none⟩ (L64 b)).setCell ⟨w.heap.size,1,none⟩ (.int .u8 f)).setCell ⟨w.heap.size,2,none⟩ (.int .i64 0)).setCell ⟨w.heap.size,3,none⟩ (.bool n1)).setCell ⟨w.heap.size,4,none⟩ (.slice ax1 (digs BB m1).length kx1)).setCell ⟨w.heap.size,5,none⟩ (.int .i64 f1)).setCell ⟨w.heap.size,6,none⟩ (.bool n2)).setCell ⟨w.heap.size,7,none⟩ (.slice ay1 (digs BB m2).length ky1)).setCell ⟨w.heap.size,8,none⟩ (.int .i64 f2)=wf at*
 obtain⟨z0,z1,z2,z3,z4,z5,z6,z7,z8,-⟩:=RZ.open9
 refine bodyPost_ret (v:= .tuple #[.agg #[L64 b,.int .u8 f,.int .i64 0,.bool n1,.slice ax1 (digs BB m1).length kx1,.int .i64 f1,.bool n2,.slice ay1 (digs BB m2).length ky1,.int .i64 f2],.bool ok]) (by simp[results,Tryz.results57,go_sem,z0,z1,z2,z3,z4,z5,z6,z7,z8]) rfl ⟨#[L64 b,.int .u8 f,.int .i64 0,.bool n1,.slice ax1 (digs BB m1).length kx1,.int .i64 f1,.bool n2,.slice ay1 (digs BB m2).length ky1,.int .i64 f2],ok,rfl,⟨b,f,n1,m1,f1,n2,m2,f2,ax1,kx1,ay1,ky1,rfl,⟨hI.out,hG.out,hdec.out⟩,(fun h=>(decG_no (hdec.out.trans (by rw[h]))).1),X2.mono (fun _ _ _=>trivial),Y2.mono (fun _ _ _=>trivial)⟩,hBf⟩
set_option maxHeartbeats 1000000 in
theorem run_ln {w:World}{fr pt:Nat}{neg:Bool}{dir:Int}{Iv:Nat→Dn→Dn→Prop}{p0 p1:Value}(hT:Tab w) (h1:32≤fr) (h2:fr≤pt) (h3:64≤pt) (h4:pt≤8192) (d0:0≤dir) (d3:dir≤3)
 (HH:∀w' n,32≤n→n≤pt→Below w.heap.size w w'→Calls Tryz.prog 34 #[.int .i64 (n:Int),p0,p1] w' (fun e w''=>∃n1 m1 f1 n2 m2 f2 x y,e= .returned (.tuple #[.agg #[.bool n1,x,.int .i64 f1,.bool n2,y,.int .i64 f2],.int .i64 0])∧(Iv n ⟨n1,m1,f1⟩ ⟨n2,m2,f2⟩∧BareI ⟨n1,m1,f1⟩ ⟨n2,m2,f2⟩)∧RdN w'' x (digs BB m1)∧RdN w'' y (digs BB m2)∧Below w'.heap.size w' w'')):
 Calls Tryz.prog 30 #[.agg #[.int .i64 dir,.int .i64 (fr:Int),.int .i64 (pt:Int),.pointer none],.bool neg,.func (.func 34) #[] #[p0,p1]] w (fun e w'=>∃l b f st tr,e= .returned (.tuple #[.agg #[L64 b,.int .u8 f,.int .i64 st],.int .i64 tr,.int .i64 0])∧PlanR fr pt l∧RunR Iv neg dir l b f st tr∧Below w.heap.size w w'):=by
 have HH:=Lib.hid HH
 have HP:=Lib.hid (fun w=>plan_ok (w:=w) h1 h2 h3 h4)
 go_enter Tryz.func30,Tryz.ntmps30
 go_upto_region 1 with fail
 have hB1:=below_alloc w (.cells #[.int .i64 dir,.int .i64 (fr:Int),.int .i64 (pt:Int),.pointer none] 33)
 have K1:Blk (w.alloc (.cells #[.int .i64 dir,.int .i64 (fr:Int),.int .i64 (pt:Int),.pointer none] 33)) w.heap.size #[.int .i64 dir,.int .i64 (fr:Int),.int .i64 (pt:Int),.pointer none]:=blk_new
 have z1:(w.alloc (.cells #[.int .i64 dir,.int .i64 (fr:Int),.int .i64 (pt:Int),.pointer none] 33)).heap.size=w.heap.size+1:=by simp
 have T1:=hT.below hB1
 have B1:Below w.heap.size w (w.alloc (.cells #[.int .i64 dir,.int .i64 (fr:Int),.int .i64 (pt:Int),.pointer none] 33)):=hB1
 generalize w.alloc (.cells #[.int .i64 dir,.int .i64 (fr:Int),.int .i64 (pt:Int),.pointer none] 33)=wA at*
 (try rw[←z1])
 clear z1 hB1
 have hB2:=below_alloc wA (.cells #[.bool neg] 4)
 have K2:Blk (wA.alloc (.cells #[.bool neg] 4)) wA.heap.size #[.bool neg]:=blk_new
 have z2:(wA.alloc (.cells #[.bool neg] 4)).heap.size=wA.heap.size+1:=by simp
 replace K1:=K1.below hB2
 have T2:=T1.below hB2
 have B2:Below w.heap.size w (wA.alloc (.cells #[.bool neg] 4)):=B1.trans (hB2.mono B1.size)
 generalize wA.alloc (.cells #[.bool neg] 4)=wB at*
 (try rw[←z2])
 clear z2 hB2 T1 B1
 have hB3:=below_alloc wB (.cells #[.func (.func 34) #[] #[p0,p1]] 77)
 have K3:Blk (wB.alloc (.cells #[.func (.func 34) #[] #[p0,p1]] 77)) wB.heap.size #[.func (.func 34) #[] #[p0,p1]]:=blk_new
 have z3:(wB.alloc (.cells #[.func (.func 34) #[] #[p0,p1]] 77)).heap.size=wB.heap.size+1:=by simp
 replace K1:=K1.below hB3
 replace K2:=K2.below hB3
 have T3:=T2.below hB3
 have B3:Below w.heap.size w (wB.alloc (.cells #[.func (.func 34) #[] #[p0,p1]] 77)):=B2.trans (hB3.mono B2.size)
 generalize wB.alloc (.cells #[.func (.func 34) #[] #[p0,p1]] 77)=wC at*
 (try rw[←z3])
 clear z3 hB3 T2 B2
 have hwC:w.heap.size≤wC.heap.size:=B3.size
 have hB4:=below_alloc wC (.cells #[.int .u64 0,.int .u8 0,.int .i64 0] 38)
 have K4:Blk (wC.alloc (.cells #[.int .u64 0,.int .u8 0,.int .i64 0] 38)) wC.heap.size #[.int .u64 0,.int .u8 0,.int .i64 0]:=blk_new
 have z4:(wC.alloc (.cells #[.int .u64 0,.int .u8 0,.int .i64 0] 38)).heap.size=wC.heap.size+1:=by simp
 replace K1:=K1.below hB4
 replace K2:=K2.below hB4
 replace K3:=K3.below hB4
 have T4:=T3.below hB4
 have B4:Below w.heap.size w (wC.alloc (.cells #[.int .u64 0,.int .u8 0,.int .i64 0] 38)):=B3.trans (hB4.mono B3.size)
 generalize wC.alloc (.cells #[.int .u64 0,.int .u8 0,.int .i64 0] 38)=wD at*
 (try rw[←z4])
 clear z4 hB4 T3 B3
 clear hT
 obtain⟨c30,c31,c32,c33,f30,f31,f32,f33,s3⟩:=K1.open4
 go_upto_region 3 with(first
  |(go_at_call 44;(with_reducible refine(HP.out _).mono ?_);rintro e w1 ⟨v1,l,rfl,hl1,hr1,h1⟩;have K1':=K1.below h1;have K2':=K2.below h1;have K3':=K3.below h1;have K4':=K4.below h1;have T1:=T4.below h1;have B1:=B4.trans (h1.mono B4.size);obtain⟨c30,c31,c32,c33,f30,f31,f32,f33,s3⟩:=K1'.open4;have HR1:=Lib.hid (fun w' (n:Nat) (hn:n∈l) (hb:Below w1.heap.size w1 w')=>run1_ln (Iv:=Iv) (neg:=neg) (n:=n) (T1.below hb) d0 d3 (K3'.below hb) (K2'.below hb) (K1'.below hb) (fun w'' hb2=>HH.out w'' n (hl1.1 n hn).1 (hl1.1 n hn).2.2 ((B1.trans (hb.mono B1.size)).trans (hb2.mono (Nat.le_trans B1.size hb.size))))))
  |(go_at_call 56;(with_reducible refine(cgo_f (P:=PRun Iv neg dir) hr1 hl1.2.2.1 hl1.2.1 HR1.out).mono ?_);rintro e w2 ⟨b,f,n1,m1,e1,n2,m2,e2,a1,k1,a2,k2,nb,tr,en,rfl,hres,x2,y2,h2⟩)
  |fail)
 have hres:=Lib.hid hres
 have hPl:=Lib.hid hl1.2.2.2
 have hA:=below_alloc w2 (.cells #[L64 b,.int .u8 f,.int .i64 0,.bool n1,.slice a1 (digs BB m1).length k1,.int .i64 e1,.bool n2,.slice a2 (digs BB m2).length k2,.int .i64 e2,.int .i64 nb,.int .i64 tr,.int .i64 en] 105)
 have R12:Blk (w2.alloc (.cells #[L64 b,.int .u8 f,.int .i64 0,.bool n1,.slice a1 (digs BB m1).length k1,.int .i64 e1,.bool n2,.slice a2 (digs BB m2).length k2,.int .i64 e2,.int .i64 nb,.int .i64 tr,.int .i64 en] 105)) w2.heap.size #[L64 b,.int .u8 f,.int .i64 0,.bool n1,.slice a1 (digs BB m1).length k1,.int .i64 e1,.bool n2,.slice a2 (digs BB m2).length k2,.int .i64 e2,.int .i64 nb,.int .i64 tr,.int .i64 en]:=blk_new
 have Ka:=(K1'.below h2).below hA
 have Kb:=(K2'.below h2).below hA
 have Kd:=(K4'.below h2).below hA
 have Ta:=(T1.below h2).below hA
 have Ba:=(B1.trans (h2.mono B1.size)).trans (hA.mono (Nat.le_trans B1.size h2.size))
 have xa:=x2.below hA
 have ya:=y2.below hA
 have hlt:wC.heap.size<w2.heap.size:=by have:=K4'.1;have:=h2.size;omega
 change Code.wp _ _ _ _ (w2.alloc (.cells #[L64 b,.int .u8 f,.int .i64 0,.bool n1,.slice a1 (digs BB m1).length k1,.int .i64 e1,.bool n2,.slice a2 (digs BB m2).length k2,.int .i64 e2,.int .i64 nb,.int .i64 tr,.int .i64 en] 105))
 clear T1 B1 K1' K2' K3' K4' h2 hA x2 y2 HR1 HP HH hl1 hr1 h1 c30 c31 c32 c33 f30 f31 f32 f33 s3 K1 K2 K3 K4 T4 B4
 generalize w2.alloc (.cells #[L64 b,.int .u8 f,.int .i64 0,.bool n1,.slice a1 (digs BB m1).length k1,.int .i64 e1,.bool n2,.slice a2 (digs BB m2).length k2,.int .i64 e2,.int .i64 nb,.int .i64 tr,.int .i64 en] 105)=wa at*
 generalize w2.heap.size=b9 at*
 obtain⟨q0,q1,q2,q3,q4,q5,q6,q7,q8,q9,q10,q11,q12,q13,q14,q15,q16,q17,q18,q19,q20,q21,q22,q23,q24⟩:=R12.open12
 obtain⟨c30,c31,c32,c33,f30,f31,f32,f33,s3⟩:=Ka.open4
 obtain⟨c40,f40,s4⟩:=Kb.open1
 obtain⟨c60,c61,c62,f60,f61,f62,s6⟩:=Kd.open3
 have hne:b9≠wC.heap.size:=by omega
 rcases hres.out with⟨rfl,i,n,hi,ht,hn,hF,hP⟩|⟨rfl,ht,hF,n,hn,rfl,hP⟩
 ·have hQ:=Lib.hid (show RunR Iv neg dir l b f 0 tr from .inl ⟨rfl,i,n,_,_,hi,hn,ht,hF,hP⟩)
  clear hres hP hF hn ht hi
  go_upto_region 4 with fail
  go_region_held3 (fun w'=>w'.cell? ⟨b9,0,none⟩=some (L64 b)∧w'.cell? ⟨b9,1,none⟩=some (.int .u8 f)∧w'.cell? ⟨b9,2,none⟩=some (.int .i64 0)∧w'.cell? ⟨b9,10,none⟩=some (.int .i64 tr))
   (refine cells12 (x3:= .bool n1) (x4:= .slice a1 (digs BB m1).length k1) (x5:= .int .i64 e1) (x6:= .bool n2) (x7:= .slice a2 (digs BB m2).length k2) (x8:= .int .i64 e2) (x9:= .int .i64 nb) (x11:= .int .i64 0) ?_<;>(repeat' (first|with_reducible assumption|with_reducible exact blk_new|with_reducible exact blk_a2|with_reducible exact Below.refl _ _|with_reducible refine Blk.set3z ?_ _ _ _|with_reducible refine Blk.other3 ?_ ?_ _ _ _|with_reducible refine Blk.next ?_|with_reducible refine Blk.dr ?_|with_reducible refine bel_dr ?_|with_reducible refine bel_set3 ?_ ?_ _ _ _|with_reducible refine bel_next ?_|with_reducible refine RdD.set3z ?_ ?_ _ _ _|with_reducible refine RdN.set3z ?_ ?_ _ _ _|with_reducible refine RdD.below ?_ (below_alloc _ _)|with_reducible refine RdN.below ?_ (below_alloc _ _)|((try simp only[size_alloc,size_drew]);omega))))
   (first|fail)
  go_wp2_with fail
  obtain⟨z0,z1,z2,-⟩:=(Kd.set3 (L64 b) (.int .u8 f) (.int .i64 0)).dr.open3
  refine bodyPost_ret (v:= .tuple #[.agg #[L64 b,.int .u8 f,.int .i64 0],.int .i64 tr,.int .i64 0]) (by simp[results,Tryz.results30,go_sem,z0,z1,z2]) rfl ⟨l,_,_,_,_,rfl,hPl.out,hQ.out,below_drewN (below_set3b Ba hwC _ _ _) 1⟩
 ·obtain rfl:f=0:=(decG_no hP.2.2).2
  have HL:=Lib.hid (dloose_g (neg:=neg) xa ya Ta hP.2.1 d0 d3)
  have hQ0:=Lib.hid (fun ok b' f' b f (h:looseG neg ⟨n1,m1,e1⟩ ⟨n2,m2,e2⟩ dir=(ok,b',f')) (e:(b,f)=if ok then(b',f')else(9221120237041090560,1))=>show RunR Iv neg dir l b f 1 tr from .inr ⟨rfl,ht,hF,n,_,_,ok,b',f',hn,hP,h,e⟩)
  clear hres hP hF hn ht xa ya Ta
  go_upto_region 6 with(first
   |(go_at_call 59;(with_reducible refine HL.out.mono ?_);rintro e w8 ⟨b',f',ok,rfl,hlo,h8⟩)
   |fail)
  have R8:=R12.below h8
  have lo8:wC.heap.size<w8.heap.size:=Nat.lt_of_lt_of_le s6 h8.size
  obtain⟨v0,v1,v2,v3,v4,v5,v6,v7,v8,v9,v10,v11,v12,v13,v14,v15,v16,v17,v18,v19,v20,v21,v22,v23,v24⟩:=R8.open12
  have K8:=Kd.below h8
  obtain⟨c80,c81,c82,f80,f81,f82,s8⟩:=K8.open3
  have o0:bits BinOp.or IntKind.u8 0 1=1:=by decide
  have o1:bits BinOp.or IntKind.u8 1 1=1:=by decide
  have o3:bits BinOp.or IntKind.u8 3 1=3:=by decide
  have o5:bits BinOp.or IntKind.u8 5 1=5:=by decide
  rcases loose_flags hlo with⟨rfl,hf⟩|⟨rfl,rfl,rfl⟩
  ·have hQ:=Lib.hid (hQ0.out true b' f' b' f' hlo rfl)
   clear hQ0 hlo
   rcases hf with rfl|rfl|rfl
   ·
    go_upto_region 8 with fail
    go_region_held3 (fun w'=>w'.cell? ⟨b9,10,none⟩=some (.int .i64 tr))
     (refine cells12t (x0:=L64 0) (x1:= .int .u8 0) (x2:= .int .i64 0) (x3:= .bool n1) (x4:= .slice a1 (digs BB m1).length k1) (x5:= .int .i64 e1) (x6:= .bool n2) (x7:= .slice a2 (digs BB m2).length k2) (x8:= .int .i64 e2) (x9:= .int .i64 nb) (x11:= .int .i64 2) ?_<;>(repeat' (first|with_reducible assumption|with_reducible exact blk_new|with_reducible exact blk_a2|with_reducible exact Below.refl _ _|with_reducible refine Blk.set3z ?_ _ _ _|with_reducible refine Blk.other3 ?_ ?_ _ _ _|with_reducible refine Blk.next ?_|with_reducible refine Blk.dr ?_|with_reducible refine bel_dr ?_|with_reducible refine bel_set3 ?_ ?_ _ _ _|with_reducible refine bel_next ?_|with_reducible refine RdD.set3z ?_ ?_ _ _ _|with_reducible refine RdN.set3z ?_ ?_ _ _ _|with_reducible refine RdD.below ?_ (below_alloc _ _)|with_reducible refine RdN.below ?_ (below_alloc _ _)|((try simp only[size_alloc,size_drew]);omega))))
     (first|fail)
    go_wp2_with fail
    obtain⟨z0,z1,z2,-⟩:=((Kd.below h8).set3 (L64 b') (.int .u8 1) (.int .i64 1)).dr.open3
    refine bodyPost_ret (v:= .tuple #[.agg #[L64 b',.int .u8 1,.int .i64 1],.int .i64 tr,.int .i64 0]) (by simp[results,Tryz.results30,go_sem,z0,z1,z2]) rfl ⟨l,_,_,_,_,rfl,hPl.out,hQ.out,below_drewN (below_set3b (Ba.trans (h8.mono Ba.size)) hwC _ _ _) 1⟩
   ·
    go_upto_region 8 with fail
    go_region_held3 (fun w'=>w'.cell? ⟨b9,10,none⟩=some (.int .i64 tr))
     (refine cells12t (x0:=L64 0) (x1:= .int .u8 0) (x2:= .int .i64 0) (x3:= .bool n1) (x4:= .slice a1 (digs BB m1).length k1) (x5:= .int .i64 e1) (x6:= .bool n2) (x7:= .slice a2 (digs BB m2).length k2) (x8:= .int .i64 e2) (x9:= .int .i64 nb) (x11:= .int .i64 2) ?_<;>(repeat' (first|with_reducible assumption|with_reducible exact blk_new|with_reducible exact blk_a2|with_reducible exact Below.refl _ _|with_reducible refine Blk.set3z ?_ _ _ _|with_reducible refine Blk.other3 ?_ ?_ _ _ _|with_reducible refine Blk.next ?_|with_reducible refine Blk.dr ?_|with_reducible refine bel_dr ?_|with_reducible refine bel_set3 ?_ ?_ _ _ _|with_reducible refine bel_next ?_|with_reducible refine RdD.set3z ?_ ?_ _ _ _|with_reducible refine RdN.set3z ?_ ?_ _ _ _|with_reducible refine RdD.below ?_ (below_alloc _ _)|with_reducible refine RdN.below ?_ (below_alloc _ _)|((try simp only[size_alloc,size_drew]);omega))))
     (first|fail)
    go_wp2_with fail
    obtain⟨z0,z1,z2,-⟩:=((Kd.below h8).set3 (L64 b') (.int .u8 3) (.int .i64 1)).dr.open3
    refine bodyPost_ret (v:= .tuple #[.agg #[L64 b',.int .u8 3,.int .i64 1],.int .i64 tr,.int .i64 0]) (by simp[results,Tryz.results30,go_sem,z0,z1,z2]) rfl ⟨l,_,_,_,_,rfl,hPl.out,hQ.out,below_drewN (below_set3b (Ba.trans (h8.mono Ba.size)) hwC _ _ _) 1⟩
   ·
    go_upto_region 8 with fail
    go_region_held3 (fun w'=>w'.cell? ⟨b9,10,none⟩=some (.int .i64 tr))
     (refine cells12t (x0:=L64 0) (x1:= .int .u8 0) (x2:= .int .i64 0) (x3:= .bool n1) (x4:= .slice a1 (digs BB m1).length k1) (x5:= .int .i64 e1) (x6:= .bool n2) (x7:= .slice a2 (digs BB m2).length k2) (x8:= .int .i64 e2) (x9:= .int .i64 nb) (x11:= .int .i64 2) ?_<;>(repeat' (first|with_reducible assumption|with_reducible exact blk_new|with_reducible exact blk_a2|with_reducible exact Below.refl _ _|with_reducible refine Blk.set3z ?_ _ _ _|with_reducible refine Blk.other3 ?_ ?_ _ _ _|with_reducible refine Blk.next ?_|with_reducible refine Blk.dr ?_|with_reducible refine bel_dr ?_|with_reducible refine bel_set3 ?_ ?_ _ _ _|with_reducible refine bel_next ?_|with_reducible refine RdD.set3z ?_ ?_ _ _ _|with_reducible refine RdN.set3z ?_ ?_ _ _ _|with_reducible refine RdD.below ?_ (below_alloc _ _)|with_reducible refine RdN.below ?_ (below_alloc _ _)|((try simp only[size_alloc,size_drew]);omega))))
     (first|fail)
    go_wp2_with fail
    obtain⟨z0,z1,z2,-⟩:=((Kd.below h8).set3 (L64 b') (.int .u8 5) (.int .i64 1)).dr.open3
    refine bodyPost_ret (v:= .tuple #[.agg #[L64 b',.int .u8 5,.int .i64 1],.int .i64 tr,.int .i64 0]) (by simp[results,Tryz.results30,go_sem,z0,z1,z2]) rfl ⟨l,_,_,_,_,rfl,hPl.out,hQ.out,below_drewN (below_set3b (Ba.trans (h8.mono Ba.size)) hwC _ _ _) 1⟩
  ·have hQ:=Lib.hid (hQ0.out false 0 0 9221120237041090560 1 hlo rfl)
   clear hQ0 hlo
   go_upto_region 8 with fail
   go_region_held3 (fun w'=>w'.cell? ⟨b9,10,none⟩=some (.int .i64 tr))
    (refine cells12t (x0:=L64 0) (x1:= .int .u8 0) (x2:= .int .i64 0) (x3:= .bool n1) (x4:= .slice a1 (digs BB m1).length k1) (x5:= .int .i64 e1) (x6:= .bool n2) (x7:= .slice a2 (digs BB m2).length k2) (x8:= .int .i64 e2) (x9:= .int .i64 nb) (x11:= .int .i64 2) ?_<;>(repeat' (first|with_reducible assumption|with_reducible exact blk_new|with_reducible exact blk_a2|with_reducible exact Below.refl _ _|with_reducible refine Blk.set3z ?_ _ _ _|with_reducible refine Blk.other3 ?_ ?_ _ _ _|with_reducible refine Blk.next ?_|with_reducible refine Blk.dr ?_|with_reducible refine bel_dr ?_|with_reducible refine bel_set3 ?_ ?_ _ _ _|with_reducible refine bel_next ?_|with_reducible refine RdD.set3z ?_ ?_ _ _ _|with_reducible refine RdN.set3z ?_ ?_ _ _ _|with_reducible refine RdD.below ?_ (below_alloc _ _)|with_reducible refine RdN.below ?_ (below_alloc _ _)|((try simp only[size_alloc,size_drew]);omega))))
    (first|fail)
   go_wp2_with fail
   obtain⟨z0,z1,z2,-⟩:=((Kd.below h8).set3 (.int .u64 9221120237041090560) (.int .u8 1) (.int .i64 1)).dr.open3
   refine bodyPost_ret (v:= .tuple #[.agg #[.int .u64 9221120237041090560,.int .u8 1,.int .i64 1],.int .i64 tr,.int .i64 0]) (by simp[results,Tryz.results30,go_sem,z0,z1,z2]) rfl ⟨l,_,_,_,_,rfl,hPl.out,hQ.out,below_drewN (below_set3b (Ba.trans (h8.mono Ba.size)) hwC _ _ _) 1⟩
def LnRes (x fr pt:Nat) (dir:Int) (b:Nat) (f st tr:Int):Prop:=
 ∃l,PlanR fr pt l∧RunR (IvLn (dyB x) (decide (x<4607182418800017408))) (decide (x<4607182418800017408)) dir l b f st tr
theorem eln_zero {w:World}{x fr pt:Nat}{dir:Int}(hx:x<18446744073709551616) (h1:32≤fr) (h2:fr≤pt) (h3:64≤pt) (h4:pt≤8192) (d0:0≤dir) (d3:dir≤3) (hk:kindN x=0):
 Calls Tryz.prog 12 #[L64 x,.agg #[.int .i64 dir,.int .i64 (fr:Int),.int .i64 (pt:Int),.pointer none]] w (fun r w'=>r= .returned (.tuple #[.agg #[.int .u64 18442240474082181120,.int .u8 8,.int .i64 0],.int .i64 0,.int .i64 0])∧Below w.heap.size w w'):=by
 have HE:=Lib.hid (fun w=>early_n (w:=w) hx h1 h2 h3 h4 d0 d3 hk (by omega))
 have HK:=Lib.hid (fun w=>kind_n (w:=w) hx)
 rw[hk]at HK
 clear h1 h2 h3 h4 d0 d3 hx hk
 go_enter Tryz.func12,Tryz.ntmps12
 go_upto_region 4 with
  (first
    |(go_at_call 22;(with_reducible refine(HE.out _).mono ?_);rintro e w1 ⟨rfl,hb1⟩;have B1:=below_2.trans (hb1.mono below_2.size);have P1:=((blk_a1)).below hb1;have R1:=((blk_a2)).below hb1;obtain⟨cP0_1,cP1_1,cP2_1,cP3_1,fP0_1,fP1_1,fP2_1,fP3_1,sP_1⟩:=P1.open4;obtain⟨cR0_1,cR1_1,cR2_1,fR0_1,fR1_1,fR2_1,sR_1⟩:=R1.open3)
    |fail)
 have R2:=R1.below (below_alloc w1 (.cells #[.int .u64 0,.int .u8 0,.int .i64 0] 38 (0,0)))
 have B2:=below_al B1 (.cells #[.int .u64 0,.int .u8 0,.int .i64 0] 38 (0,0))
 generalize w1.alloc (.cells #[.int .u64 0,.int .u8 0,.int .i64 0] 38 (0,0))=w2 at*
 obtain⟨cR0,cR1,cR2,fR0,fR1,fR2,sR⟩:=R2.open3
 go_wp2_with (first
  |(go_at_call 33;(with_reducible refine(HK.out _).mono ?_);rintro e w3 ⟨rfl,rfl⟩)
  |fail)
 obtain⟨z0,z1,z2,-⟩:=(R2.set3 (.int .u64 18442240474082181120) (.int .u8 8) (.int .i64 0)).open3
 refine bodyPost_ret (v:= .tuple #[.agg #[.int .u64 18442240474082181120,.int .u8 8,.int .i64 0],.int .i64 0,.int .i64 0]) (by simp[results,Tryz.results12,go_sem,z0,z1,z2]) rfl ⟨rfl,below_set3b B2 (by omega) _ _ _⟩
theorem eln_neg {w:World}{x fr pt:Nat}{dir:Int}(hx:x<18446744073709551616) (h1:32≤fr) (h2:fr≤pt) (h3:64≤pt) (h4:pt≤8192) (d0:0≤dir) (d3:dir≤3) (hk:0<kindN x) (hk3:kindN x<4) (hn:negN x=true):
 Calls Tryz.prog 12 #[L64 x,.agg #[.int .i64 dir,.int .i64 (fr:Int),.int .i64 (pt:Int),.pointer none]] w (fun r w'=>r= .returned (.tuple #[.agg #[.int .u64 9221120237041090560,.int .u8 16,.int .i64 0],.int .i64 0,.int .i64 0])∧Below w.heap.size w w'):=by
 have HE:=Lib.hid (fun w=>early_n (w:=w) (k:=kindN x) hx h1 h2 h3 h4 d0 d3 rfl (by omega))
 have HK:=Lib.hid (fun w=>kind_n (w:=w) hx)
 have HN:=Lib.hid (fun w=>fneg_n (w:=w) hx)
 rw[hn]at HN
 obtain⟨k,hkk⟩:∃k,kindN x=k:=⟨_,rfl⟩
 rw[hkk]at HK hk
 have dk:((k:Int)==0)=false:=beq_false_of_ne (by omega)
 have dk':(k==0)=false:=beq_false_of_ne (by omega)
 have HI:=Lib.hid (trivial:True)
 clear h1 h2 h3 h4 d0 d3 hx hk hk3 hn hkk
 go_enter Tryz.func12,Tryz.ntmps12
 go_upto_region 4 with
  (first
    |(go_at_call 22;(with_reducible refine(HE.out _).mono ?_);rintro e w1 ⟨rfl,hb1⟩;have B1:=below_2.trans (hb1.mono below_2.size);have P1:=((blk_a1)).below hb1;have R1:=((blk_a2)).below hb1;obtain⟨cP0_1,cP1_1,cP2_1,cP3_1,fP0_1,fP1_1,fP2_1,fP3_1,sP_1⟩:=P1.open4;obtain⟨cR0_1,cR1_1,cR2_1,fR0_1,fR1_1,fR2_1,sR_1⟩:=R1.open3)
    |fail)
 have R2:=R1.below (below_alloc w1 (.cells #[.int .u64 0,.int .u8 0,.int .i64 0] 38 (0,0)))
 have B2:=below_al B1 (.cells #[.int .u64 0,.int .u8 0,.int .i64 0] 38 (0,0))
 generalize w1.alloc (.cells #[.int .u64 0,.int .u8 0,.int .i64 0] 38 (0,0))=w2 at*
 obtain⟨cR0,cR1,cR2,fR0,fR1,fR2,sR⟩:=R2.open3
 go_wp2_with (first
  |(go_at_call 33;(with_reducible refine(HK.out _).mono ?_);rintro e w3 ⟨rfl,rfl⟩)
  |(go_at_call 24;(with_reducible refine(HN.out _).mono ?_);rintro e w3 ⟨rfl,rfl⟩)
  |fail)
 obtain⟨z0,z1,z2,-⟩:=(R2.set3 (.int .u64 9221120237041090560) (.int .u8 16) (.int .i64 0)).open3
 refine bodyPost_ret (v:= .tuple #[.agg #[.int .u64 9221120237041090560,.int .u8 16,.int .i64 0],.int .i64 0,.int .i64 0]) (by simp[results,Tryz.results12,go_sem,z0,z1,z2]) rfl ⟨rfl,below_set3b B2 (by omega) _ _ _⟩
theorem eln_inf {w:World}{x fr pt:Nat}{dir:Int}(hx:x<18446744073709551616) (h1:32≤fr) (h2:fr≤pt) (h3:64≤pt) (h4:pt≤8192) (d0:0≤dir) (d3:dir≤3) (hxx:x=9218868437227405312):
 Calls Tryz.prog 12 #[L64 x,.agg #[.int .i64 dir,.int .i64 (fr:Int),.int .i64 (pt:Int),.pointer none]] w (fun r w'=>r= .returned (.tuple #[.agg #[.int .u64 9218868437227405312,.int .u8 0,.int .i64 0],.int .i64 0,.int .i64 0])∧Below w.heap.size w w'):=by
 subst hxx
 have HE:=Lib.hid (fun w=>show Calls Tryz.prog 22 #[.int .u64 9218868437227405312,.agg #[.int .i64 dir,.int .i64 (fr:Int),.int .i64 (pt:Int),.pointer none]] w _ from early_n (w:=w) (x:=9218868437227405312) (k:=3) hx h1 h2 h3 h4 d0 d3 (by decide) (by decide))
 have HK:=Lib.hid (fun w=>show Calls Tryz.prog 33 #[.int .u64 9218868437227405312] w (fun e w'=>e= .returned (.int .i64 3)∧w'=w)from kind_n (w:=w) (b:=9218868437227405312) hx)
 have HN:=Lib.hid (fun w=>show Calls Tryz.prog 24 #[.int .u64 9218868437227405312] w (fun e w'=>e= .returned (.bool false)∧w'=w)from fneg_n (w:=w) (b:=9218868437227405312) hx)
 have HI:=Lib.hid (fun w=>show Calls Tryz.prog 25 #[.int .u64 9218868437227405312] w _ from eis_n (w:=w) (b:=9218868437227405312))
 clear h1 h2 h3 h4 d0 d3 hx
 show Calls Tryz.prog 12 #[.int .u64 9218868437227405312,.agg #[.int .i64 dir,.int .i64 (fr:Int),.int .i64 (pt:Int),.pointer none]] w _
 go_enter Tryz.func12,Tryz.ntmps12
 go_upto_region 4 with
  (first
    |(go_at_call 22;(with_reducible refine(HE.out _).mono ?_);rintro e w1 ⟨rfl,hb1⟩;have B1:=below_2.trans (hb1.mono below_2.size);have P1:=((blk_a1)).below hb1;have R1:=((blk_a2)).below hb1;obtain⟨cP0_1,cP1_1,cP2_1,cP3_1,fP0_1,fP1_1,fP2_1,fP3_1,sP_1⟩:=P1.open4;obtain⟨cR0_1,cR1_1,cR2_1,fR0_1,fR1_1,fR2_1,sR_1⟩:=R1.open3)
    |fail)
 have R2:=R1.below (below_alloc w1 (.cells #[.int .u64 0,.int .u8 0,.int .i64 0] 38 (0,0)))
 have B2:=below_al B1 (.cells #[.int .u64 0,.int .u8 0,.int .i64 0] 38 (0,0))
 generalize w1.alloc (.cells #[.int .u64 0,.int .u8 0,.int .i64 0] 38 (0,0))=w2 at*
 obtain⟨cR0,cR1,cR2,fR0,fR1,fR2,sR⟩:=R2.open3
 go_wp2_with (first
  |(go_at_call 33;(with_reducible refine(HK.out _).mono ?_);rintro e w3 ⟨rfl,rfl⟩)
  |(go_at_call 24;(with_reducible refine(HN.out _).mono ?_);rintro e w3 ⟨rfl,rfl⟩)
  |(go_at_call 25;(with_reducible refine(HI.out _).mono ?_);rintro e w3 ⟨rfl,hb3⟩;have R3:=R2.below hb3;have B3:=B2.trans (hb3.mono B2.size);obtain⟨cS0,cS1,cS2,fS0,fS1,fS2,sS⟩:=R3.open3)
  |fail)
 obtain⟨z0,z1,z2,-⟩:=(R3.set3 (.int .u64 9218868437227405312) (.int .u8 0) (.int .i64 0)).open3
 refine bodyPost_ret (v:= .tuple #[.agg #[.int .u64 9218868437227405312,.int .u8 0,.int .i64 0],.int .i64 0,.int .i64 0]) (by simp[results,Tryz.results12,go_sem,z0,z1,z2]) rfl ⟨rfl,below_set3b B3 (by omega) _ _ _⟩
theorem eln_one {w:World}{x fr pt:Nat}{dir:Int}(hx:x<18446744073709551616) (h1:32≤fr) (h2:fr≤pt) (h3:64≤pt) (h4:pt≤8192) (d0:0≤dir) (d3:dir≤3) (hxx:x=4607182418800017408):
 Calls Tryz.prog 12 #[L64 x,.agg #[.int .i64 dir,.int .i64 (fr:Int),.int .i64 (pt:Int),.pointer none]] w (fun r w'=>r= .returned (.tuple #[.agg #[.int .u64 0,.int .u8 0,.int .i64 0],.int .i64 0,.int .i64 0])∧Below w.heap.size w w'):=by
 subst hxx
 have HE:=Lib.hid (fun w=>show Calls Tryz.prog 22 #[.int .u64 4607182418800017408,.agg #[.int .i64 dir,.int .i64 (fr:Int),.int .i64 (pt:Int),.pointer none]] w _ from early_n (w:=w) (x:=4607182418800017408) (k:=2) hx h1 h2 h3 h4 d0 d3 (by decide) (by decide))
 have HK:=Lib.hid (fun w=>show Calls Tryz.prog 33 #[.int .u64 4607182418800017408] w (fun e w'=>e= .returned (.int .i64 2)∧w'=w)from kind_n (w:=w) (b:=4607182418800017408) hx)
 have HN:=Lib.hid (fun w=>show Calls Tryz.prog 24 #[.int .u64 4607182418800017408] w (fun e w'=>e= .returned (.bool false)∧w'=w)from fneg_n (w:=w) (b:=4607182418800017408) hx)
 have HI:=Lib.hid (fun w=>show Calls Tryz.prog 25 #[.int .u64 0] w _ from eis_n (w:=w) (b:=0))
 clear h1 h2 h3 h4 d0 d3 hx
 show Calls Tryz.prog 12 #[.int .u64 4607182418800017408,.agg #[.int .i64 dir,.int .i64 (fr:Int),.int .i64 (pt:Int),.pointer none]] w _
 go_enter Tryz.func12,Tryz.ntmps12
 go_upto_region 4 with
  (first
    |(go_at_call 22;(with_reducible refine(HE.out _).mono ?_);rintro e w1 ⟨rfl,hb1⟩;have B1:=below_2.trans (hb1.mono below_2.size);have P1:=((blk_a1)).below hb1;have R1:=((blk_a2)).below hb1;obtain⟨cP0_1,cP1_1,cP2_1,cP3_1,fP0_1,fP1_1,fP2_1,fP3_1,sP_1⟩:=P1.open4;obtain⟨cR0_1,cR1_1,cR2_1,fR0_1,fR1_1,fR2_1,sR_1⟩:=R1.open3)
    |fail)
 have R2:=R1.below (below_alloc w1 (.cells #[.int .u64 0,.int .u8 0,.int .i64 0] 38 (0,0)))
 have B2:=below_al B1 (.cells #[.int .u64 0,.int .u8 0,.int .i64 0] 38 (0,0))
 generalize w1.alloc (.cells #[.int .u64 0,.int .u8 0,.int .i64 0] 38 (0,0))=w2 at*
 obtain⟨cR0,cR1,cR2,fR0,fR1,fR2,sR⟩:=R2.open3
 go_wp2_with (first
  |(go_at_call 33;(with_reducible refine(HK.out _).mono ?_);rintro e w3 ⟨rfl,rfl⟩)
  |(go_at_call 24;(with_reducible refine(HN.out _).mono ?_);rintro e w3 ⟨rfl,rfl⟩)
  |(go_at_call 25;(with_reducible refine(HI.out _).mono ?_);rintro e w3 ⟨rfl,hb3⟩;have R3:=R2.below hb3;have B3:=B2.trans (hb3.mono B2.size);obtain⟨cS0,cS1,cS2,fS0,fS1,fS2,sS⟩:=R3.open3)
  |fail)
 obtain⟨z0,z1,z2,-⟩:=(R3.set3 (.int .u64 0) (.int .u8 0) (.int .i64 0)).open3
 refine bodyPost_ret (v:= .tuple #[.agg #[.int .u64 0,.int .u8 0,.int .i64 0],.int .i64 0,.int .i64 0]) (by simp[results,Tryz.results12,go_sem,z0,z1,z2]) rfl ⟨rfl,below_set3b B3 (by omega) _ _ _⟩
set_option maxHeartbeats 1000000 in
theorem eln_fin {w:World}{x fr pt:Nat}{dir:Int}(hx:x<18446744073709551616) (h1:32≤fr) (h2:fr≤pt) (h3:64≤pt) (h4:pt≤8192) (d0:0≤dir) (d3:dir≤3) (hT:Tab w) (hf:fldN x<2047) (hk0:kindN x≠0) (hn:negN x=false) (h1x:x≠4607182418800017408):
 Calls Tryz.prog 12 #[L64 x,.agg #[.int .i64 dir,.int .i64 (fr:Int),.int .i64 (pt:Int),.pointer none]] w (fun r w'=>∃b f st tr,r= .returned (.tuple #[.agg #[L64 b,.int .u8 f,.int .i64 st],.int .i64 tr,.int .i64 0])∧LnRes x fr pt dir b f st tr∧Below w.heap.size w w'):=by
 have hk:=kind_fin.2 hf
 have HE:=Lib.hid (fun w=>early_n (w:=w) (k:=kindN x) hx h1 h2 h3 h4 d0 d3 rfl (by omega))
 have HK:=Lib.hid (fun w=>kind_n (w:=w) hx)
 have HN:=Lib.hid (fun w=>fneg_n (w:=w) hx)
 rw[hn]at HN
 have hz:=fun h=>hk0 ((kind_zero hf).2 h)
 obtain⟨hm,hb,-,-⟩:=dyB_mid hf
 unfold LnRes
 obtain⟨⟨n',m',e'⟩,hd⟩:∃d,dyB x=d:=⟨_,rfl⟩
 rw[hd]at hz hb hm
 rw[hd]
 dsimp only at hz
 have hn':n'=false:=by
  have hd2:=hd
  unfold dyB bareD at hd2
  split at hd2
  ·injection hd2 with a;exact a.symm
  ·injection hd2 with a;rw[←a];exact hn
 subst hn'
 have HD:=Lib.hid (fun w (hT:Tab w)=>fdyad_n (w:=w) hx hT hf hd)
 obtain⟨k,hkk⟩:∃k,kindN x=k:=⟨_,rfl⟩
 rw[hkk]at HK hk0
 have dk:((k:Int)==0)=false:=beq_false_of_ne (by omega)
 have dk':(k==0)=false:=beq_false_of_ne (by omega)
 have hxi:x≠9218868437227405312:=fun h=>by rw[h]at hf;exact absurd hf (by decide)
 have di:((x:Int)==9218868437227405312)=false:=beq_false_of_ne (by omega)
 have di':(x==9218868437227405312)=false:=beq_false_of_ne hxi
 have do1:((x:Int)==4607182418800017408)=false:=beq_false_of_ne (by omega)
 have do1':(x==4607182418800017408)=false:=beq_false_of_ne h1x
 obtain⟨ng,hng⟩:∃b,decide (x<4607182418800017408)=b:=⟨_,rfl⟩
 have hng2:decide ((x:Int)<4607182418800017408)=ng:=by
  rw[←hng]
  by_cases c:x<4607182418800017408
  ·rw[decide_eq_true c,decide_eq_true (by omega)]
  ·rw[decide_eq_false c,decide_eq_false (by omega)]
 rw[hng]
 clear hk hx hf hn hk0 hkk h1x hxi hd
 go_enter Tryz.func12,Tryz.ntmps12
 go_upto_region 4 with
  (first
    |(go_at_call 22;(with_reducible refine(HE.out _).mono ?_);rintro e w1 ⟨rfl,hb1⟩;have B1:=below_2.trans (hb1.mono below_2.size);have P1:=((blk_a1)).below hb1;have R1:=((blk_a2)).below hb1;obtain⟨cP0_1,cP1_1,cP2_1,cP3_1,fP0_1,fP1_1,fP2_1,fP3_1,sP_1⟩:=P1.open4;obtain⟨cR0_1,cR1_1,cR2_1,fR0_1,fR1_1,fR2_1,sR_1⟩:=R1.open3)
    |fail)
 have R2:=R1.below (below_alloc w1 (.cells #[.int .u64 0,.int .u8 0,.int .i64 0] 38 (0,0)))
 have P2:=P1.below (below_alloc w1 (.cells #[.int .u64 0,.int .u8 0,.int .i64 0] 38 (0,0)))
 have B2:=below_al B1 (.cells #[.int .u64 0,.int .u8 0,.int .i64 0] 38 (0,0))
 have T2:=hT.below B2
 clear R1 P1 B1 hb1 cP0_1 cP1_1 cP2_1 cP3_1 fP0_1 fP1_1 fP2_1 fP3_1 sP_1 cR0_1 cR1_1 cR2_1 fR0_1 fR1_1 fR2_1 sR_1
 generalize w1.alloc (.cells #[.int .u64 0,.int .u8 0,.int .i64 0] 38 (0,0))=w2 at*
 go_upto_region 13 with(first
  |(go_at_call 33;(with_reducible refine(HK.out _).mono ?_);rintro e w3 ⟨rfl,rfl⟩)
  |(go_at_call 24;(with_reducible refine(HN.out _).mono ?_);rintro e w3 ⟨rfl,rfl⟩)
  |(go_at_call 23;(with_reducible refine(HD.out _ T2).mono ?_);rintro e w3 ⟨v3,rfl,x3,hb3⟩;obtain⟨ax,kx,rfl,-⟩:=x3.view)
  |fail)
 have DD3:Blk (w3.alloc (.cells #[.bool false,.slice ax (digs BB m').length kx,.int .i64 e'] 63 (0,0))) w3.heap.size #[.bool false,.slice ax (digs BB m').length kx,.int .i64 e']:=blk_new
 have hA:=below_alloc w3 (.cells #[.bool false,.slice ax (digs BB m').length kx,.int .i64 e'] 63 (0,0))
 have R4:=(R2.below hb3).below hA
 have P4:=(P2.below hb3).below hA
 have T4:=(T2.below hb3).below hA
 have x4:=x3.below hA
 have B4:=(B2.trans (hb3.mono B2.size)).trans (hA.mono (Nat.le_trans B2.size hb3.size))
 clear R2 P2 T2 x3 B2 hb3 hA
 generalize w3.alloc (.cells #[.bool false,.slice ax (digs BB m').length kx,.int .i64 e'] 63 (0,0))=w4 at*
 generalize w3.heap.size=b10 at*
 go_upto_region 14 with fail
 have N5:Blk (w4.alloc (.cells #[.bool ng] 4 (0,0))) w4.heap.size #[.bool ng]:=blk_new
 have hA:=below_alloc w4 (.cells #[.bool ng] 4 (0,0))
 have R5:=R4.below hA
 have P5:=P4.below hA
 have D5:=DD3.below hA
 have T5:=T4.below hA
 have x5:=x4.below hA
 have B5:=B4.trans (hA.mono B4.size)
 clear R4 P4 T4 x4 B4 hA DD3
 generalize w4.alloc (.cells #[.bool ng] 4 (0,0))=w5 at*
 generalize w4.heap.size=b12 at*
 have HR:=Lib.hid (run_ln (w:=w5) (neg:=ng) (Iv:=IvLn ⟨false,m',e'⟩ ng) (p0:= .pointer (some ⟨b10,0,none⟩)) (p1:= .pointer (some ⟨b12,0,none⟩)) T5 h1 h2 h3 h4 d0 d3 (fun w' n hn1 hn2 hb'=>ln1_n (x5.below hb') (T5.below hb') hb hz hm (by omega) (D5.below hb') (N5.below hb')))
 obtain⟨cP0,cP1,cP2,cP3,fP0,fP1,fP2,fP3,sP⟩:=P5.open4
 obtain⟨cN0,fN0,sN⟩:=N5.open1
 obtain⟨cR0,cR1,cR2,fR0,fR1,fR2,sR⟩:=R5.open3
 clear hz hb hm hng hng2 dk dk' di di' do1 do1'
 go_wp2_with (first
  |(go_at_call 30;(with_reducible refine HR.out.mono ?_);rintro e w6 ⟨l,b,f,st,tr,rfl,hpl,hrn,hb6⟩;have R6:=R5.below hb6;have B6:=B5.trans (hb6.mono B5.size);obtain⟨gR0,gR1,gR2,gfR0,gfR1,gfR2,gsR⟩:=R6.open3)
  |fail)
 obtain⟨z0,z1,z2,-⟩:=(R6.set3 (L64 b) (.int .u8 f) (.int .i64 st)).open3
 refine bodyPost_ret (v:= .tuple #[.agg #[L64 b,.int .u8 f,.int .i64 st],.int .i64 tr,.int .i64 0]) (by simp[results,Tryz.results12,go_sem,z0,z1,z2]) rfl ⟨b,f,st,tr,rfl,⟨l,hpl,hrn⟩,below_set3b B6 (by omega) _ _ _⟩
def IvEx1 (d:Dn) (neg:Bool) (n:Nat) (lo hi:Dn):Prop:=∃l h k,ExpT d l h (n+192) k∧qv lo=(if neg then-(qv h+(-1:Int))else qv l+(-1:Int))∧qv hi=(if neg then-(qv l+(-1:Int))else qv h+(-1:Int))
def BesR (x:Nat) (dir:Int) (b:Nat) (f:Int):Prop:=∃n m e,bareD ⟨n,m,e⟩=⟨n,m,e⟩∧m≠0∧qv ⟨n,m,e⟩=(if negN x then qv (dyB x)+pw (-1200)else qv (dyB x))∧toB n m e true dir=(b,f)
theorem pw_lt {a b:Int}(h:a<b):pw a<pw b:=by
 have h1:pw (a+1)=pw a*pw 1:=pw_add a 1
 rw[pw_one]at h1
 have h2:=pw_mono (show a+1≤b by omega)
 have h3:=pw_pos a
 grind
def Ex1Res (x fr pt:Nat) (dir:Int) (b:Nat) (f st tr:Int):Prop:=
 (topD (dyB x)< -60∧BesR x dir b f∧st=0∧tr=0)∨(¬topD (dyB x)< -60∧710≤qv (dyB x)∧resB 1 false dir=(b,f,true)∧st=0∧tr=0)∨
 (¬topD (dyB x)< -60∧qv (dyB x)≤-80∧resB 4 true dir=(b,f,true)∧st=0∧tr=0)∨
 (¬topD (dyB x)< -60∧-80<qv (dyB x)∧qv (dyB x)<710∧∃l,PlanR fr pt l∧RunR (IvEx1 (dyB x) (negN x)) (negN x) dir l b f st tr)
open Go.RowKit
def RgP (P:Rat→Rat→Prop) (n:Bool) (dir:Int) (b:Nat) (f:Int):Prop:=
 ∃M1 E1 M2 E2,End n M1 E1 dir b f∧End n M2 E2 dir b f∧P ((M1:Rat)*pw E1) ((M2:Rat)*pw E2)
theorem run_rg {Iv:Nat→Dn→Dn→Prop}{neg:Bool}{dir f tr:Int}{l:List Nat}{b:Nat}(h:RunR Iv neg dir l b f 0 tr):∃n lo hi,Iv n lo hi∧(lo.neg=false∧hi.neg=false)∧End neg lo.m lo.e dir b f∧End neg hi.m hi.e dir b f:=by
 rcases h with⟨-,i,n,lo,hi,h9,hn,ht,-,hI,hB,hd⟩|⟨h,-⟩
 ·obtain⟨-,hn,i1,i2,z1,z2,t1,t2⟩:=dec_ends hd
  have hf:=toB_inexact (bareD_oddM (n:=lo.neg) (n':=lo.neg) (E:=lo.e) (E':=lo.e) hB.q1 z1) i1 t1
  exact⟨n,lo,hi,hI,hn,⟨z1,t1,hf⟩,⟨z2,t2,hf⟩⟩
 ·exact absurd h (by decide)
theorem qv_size {d:Dn}(h:d.neg=false):qv d=(d.m:Rat)*pw d.e:=by
 unfold qv
 rw[h];rfl
theorem pw_big (r:Rat):∃N:Nat,r≤pw (N:Int):=by
 obtain⟨n,hn⟩:=rq_arch (c:=r) (r:=1) (by decide)
 refine⟨n,?_⟩
 rw[pw_nat]
 have h1:(n:Rat)≤((2^n:Nat):Rat):=rq_le (Nat.le_of_lt Nat.lt_two_pow_self)
 grind
theorem pw_little {r:Rat}(hr:0<r) (k:Nat):∃N:Nat,k≤N∧pw (-(N:Int))≤r:=by
 obtain⟨N,hN⟩:=pw_big (r⁻¹)
 refine⟨max N k,by omega,?_⟩
 have h1:=pw_mono (show(N:Int)≤((max N k:Nat):Int)by omega)
 have h2:=pw_neg ((max N k:Nat):Int)
 obtain⟨i1,i2⟩:=rq_inv_pos hr
 have h3:r⁻¹≤pw ((max N k:Nat):Int):=Rat.le_trans hN h1
 have h4:=Rat.mul_le_mul_of_nonneg_left h3 (Rat.le_of_lt (pw_pos (-((max N k:Nat):Int))))
 rw[h2]at h4
 have h5:=Rat.mul_le_mul_of_nonneg_right h4 (Rat.le_of_lt hr)
 rw[Rat.mul_assoc,i2,Rat.mul_one,Rat.one_mul]at h5
 exact h5
theorem exp_below (v:Rat):∃N:Nat,XL v 1 (pw (N:Int)):=by
 rcases rq_total v 0 with h|h
 ·exact⟨0,XL.neg_one h (by decide)⟩
 ·obtain⟨e,h1,he⟩:=exA_bounded h
  obtain⟨N,hN⟩:=pw_big e
  exact⟨N,XL.of_series h (by decide) (fun K=>by have:=he K;grind)⟩
theorem exp_above (v:Rat):∃N:Nat,XL (-v) (pw (-(N:Int))) 1:=by
 obtain⟨N,hN⟩:=exp_below (-v)
 have h:=hN.scale (pw_pos (-(N:Int)))
 have h2:=pw_neg (N:Int)
 rw[Rat.mul_comm]at h2
 rw[Rat.one_mul,h2]at h
 exact⟨N,h⟩
theorem one_m (E:Int):((1:Nat):Rat)*pw E=pw E:=Rat.one_mul _
theorem above_m (N:Nat):((2^N+1:Nat):Rat)*pw (-(N:Int))=1+pw (-(N:Int)):=by
 have:=pw_unit N
 rw[Rat.natCast_add,Rat.add_mul,this,one_m]
theorem below_m (N:Nat):((2^N-1:Nat):Rat)*pw (-(N:Int))=1-pw (-(N:Int)):=by
 have h1:=pw_unit N
 have h2:((2^N-1:Nat):Rat)=((2^N:Nat):Rat)-1:=by
  have h3:((2^N-1+1:Nat):Rat)=((2^N-1:Nat):Rat)+1:=by rw[Rat.natCast_add];rfl
  rw[Nat.sub_add_cancel (Nat.two_pow_pos N)]at h3
  grind
 rw[h2]
 grind
theorem exp_rg {d:Dn}{fr pt b:Nat}{dir f tr:Int}(h:ExpRes d fr pt dir b f 0 tr) (d0:0≤dir) (d3:dir≤3) (h0:d.m≠0):RgP (fun a c=>XL (-(qv d)) a 1∧XL (qv d) 1 c) false dir b f:=by
 rcases h with⟨hc,hr,-,-⟩|⟨hc,l,hl,hr⟩
 ·have g:¬(dir<0∨3<dir):=by omega
  have hs:signD d≠0:=by unfold signD;rw[if_neg h0];split<;>decide
  rcases class_val (d:=d) (k:=clsN d) rfl rfl rfl rfl rfl rfl with hk|⟨hk,hv⟩|⟨hk,hv⟩|⟨hk,hv,hv2⟩|⟨hk,hv,hv2⟩
  ·exact absurd hk hc
  ·
   rw[hk]at hr
   unfold resB at hr
   rw[if_neg g,if_pos rfl]at hr
   injection hr with e1 e2;injection e2 with e2 e3
   obtain⟨N,hN⟩:=exp_below (qv d)
   have hp:=pw_pos 1024
   have k1:=pw_exp (n:=1024) (q:=qv d) (by have:((1024:Nat):Rat)=1024:=rfl
                                           rw[this];grind)
   rw[show((1024:Nat):Int)=1024 from rfl]at k1
   have k2:XL (-(qv d)) (pw 1024) 1:=k1.down hp (by grind)
   have k3:pw 1024≤pw ((N:Nat):Int):=exp_le k2 hN
   refine⟨1,1024,1,(N:Int),⟨by decide,?_,by rw[←e2];decide⟩,⟨by decide,?_,by rw[←e2];decide⟩,by rw[one_m];exact k2,by rw[one_m];exact hN⟩
   ·rw[round_over (by rw[one_m];exact Rat.le_refl),e1,e2]
   ·rw[round_over (by rw[one_m];exact k3),e1,e2]
  ·
   rw[hk]at hr
   unfold resB at hr
   rw[if_neg g,if_neg (by decide),if_pos rfl]at hr
   injection hr with e1 e2;injection e2 with e2 e3
   obtain⟨N,hN⟩:=exp_above (qv d)
   have hp:=pw_pos (-1075)
   have k1:=pw_exp (n:=1075) (q:= -(qv d)) (by have:((1075:Nat):Rat)=1075:=rfl
                                               rw[this];grind)
   rw[show((1075:Nat):Int)=1075 from rfl,show- -(qv d)=qv d by grind]at k1
   have hq:((15:Nat):Rat)*pw (-1079)=pw (-1075)*(15/16):=by
    have:pw (-1075)=pw (-1079)*pw 4:=by rw[←pw_add];rfl
    have e4:pw 4=16:=by have:=pw_nat 4;rw[show((4:Nat):Int)=4 from rfl]at this;rw[this];decide+kernel
    rw[this,e4]
    have:((15:Nat):Rat)=15:=rfl
    rw[this];grind
   have hu:pw 1075*pw (-1075)=1:=by have:=pw_neg 1075;grind
   have k2:=k1.scale (show 0<pw (-1075)*(15/16)from Rat.mul_pos hp (by decide+kernel))
   have k3:XL (qv d) 1 (((15:Nat):Rat)*pw (-1079)):=by
    rw[hq]
    refine(k2.down (c':=1) (by decide) ?_).up (by rw[Rat.one_mul];exact Rat.le_refl)
    have:pw 1075*(11/10)*(pw (-1075)*(15/16))=pw 1075*pw (-1075)*(165/160):=by grind
    rw[this,hu]
    decide+kernel
   have k4:((15:Nat):Rat)*pw (-1079)<pw (-1075):=by rw[hq];grind
   have k5:pw (-(N:Int))<pw (-1075):=by
    have:=exp_le hN k3
    grind
   refine⟨1,-(N:Int),15,-1079,⟨by decide,?_,by rw[←e2];decide⟩,⟨by decide,?_,by rw[←e2];decide⟩,by rw[one_m];exact hN,k3⟩
   ·rw[round_under (by decide) (by rw[one_m];exact k5),e1,e2]
   ·rw[round_under (by decide) k4,e1,e2]
  ·
   rw[hk]at hr
   unfold resB at hr
   rw[if_neg g,if_neg (by decide),if_neg (by decide),if_pos rfl]at hr
   injection hr with e1 e2;injection e2 with e2 e3
   obtain⟨N,hN1,hN2⟩:=pw_little hv 54
   obtain⟨t1,t2,t3,t4,t5⟩:=tiny_175
   have hpN:=pw_pos (-(N:Int))
   have k1:XL (-(qv d)) (1+pw (-(N:Int))) 1:=(XL.neg_lin (Rat.le_of_lt hv)).down (by grind) (by grind)
   have h59:pw (-59)=pw (-60)*2:=by rw[←pw_one,←pw_add];rfl
   have k2:XL (qv d) 1 (1+pw (-59)):=by
    have a:=XL.pos_lin (q:=qv d) (Rat.le_of_lt hv) (by grind)
    have hp1:0<1-qv d:=by grind
    obtain⟨i1,i2⟩:=rq_inv_pos hp1
    have a2:=a.scale i1
    rw[Rat.mul_comm (1-qv d),i2,Rat.one_mul]at a2
    refine a2.up ?_
    have h3:1≤(1+pw (-59))*(1-qv d):=by
     rw[h59]
     generalize pw (-60)=z at*
     generalize qv d=v at*
     have b1:=Rat.mul_nonneg (show 0≤z-v by grind) (show 0≤1+2*z by grind)
     have b2:=Rat.mul_nonneg (show 0≤z by grind) (show 0≤1-2*z by grind)
     grind
    have h4:=Rat.mul_le_mul_of_nonneg_right h3 (Rat.le_of_lt i1)
    rw[Rat.one_mul,Rat.mul_assoc,Rat.mul_comm (1-qv d),i2,Rat.mul_one]at h4
    exact h4
   have a59:=above_m 59
   rw[show((59:Nat):Int)=59 from rfl]at a59
   have h54:pw (-(N:Int))<pw (-53):=pw_lt (by omega)
   refine⟨2^N+1,-(N:Int),2^59+1,-59,⟨Nat.succ_ne_zero _,?_,by rw[←e2];decide⟩,⟨by decide,?_,by rw[←e2];decide⟩,by rw[above_m];exact k1,by rw[a59];exact k2⟩
   ·rw[round_above (by rw[above_m];grind) (by rw[above_m];grind),e1,e2]
   ·rw[round_above (by rw[a59];have:=pw_pos (-59);grind) (by rw[a59];grind),e1,e2]
  ·
   rw[hk]at hr
   unfold resB at hr
   rw[if_neg g,if_neg (by decide),if_neg (by decide),if_neg (by decide),if_pos rfl]at hr
   injection hr with e1 e2;injection e2 with e2 e3
   have hv0:0< -(qv d):=by grind
   have hv1: -(qv d)<pw (-60):=by grind
   obtain⟨N,hN1,hN2⟩:=pw_little (show 0< -(qv d)*(1/2)from Rat.mul_pos hv0 (by decide+kernel)) 55
   obtain⟨t1,t2,t3,t4,t5⟩:=tiny_175
   have hpN:=pw_pos (-(N:Int))
   have b60:=below_m 60
   rw[show((60:Nat):Int)=60 from rfl]at b60
   have k1:XL (-(qv d)) (1-pw (-60)) 1:=(XL.pos_lin (q:= -(qv d)) (Rat.le_of_lt hv0) (by grind)).down (by grind) (by grind)
   have k2:XL (qv d) 1 (1-pw (-(N:Int))):=by
    have a:=XL.neg_lin (q:= -(qv d)) (Rat.le_of_lt hv0)
    rw[show- -(qv d)=qv d by grind]at a
    have hp1:0<1+ -(qv d):=by grind
    obtain⟨i1,i2⟩:=rq_inv_pos hp1
    have a2:=a.scale i1
    rw[Rat.mul_comm (1+ -(qv d)),i2,Rat.one_mul]at a2
    refine a2.up ?_
    have h3:1≤(1-pw (-(N:Int)))*(1+ -(qv d)):=by
     generalize pw (-(N:Int))=z at*
     generalize-(qv d)=v at*
     have b1:=Rat.mul_nonneg (show 0≤v*(1/2)-z by grind) (show 0≤1+v by grind)
     have b2:=Rat.mul_nonneg (show 0≤v by grind) (show 0≤1-v by grind)
     grind
    have h4:=Rat.mul_le_mul_of_nonneg_right h3 (Rat.le_of_lt i1)
    rw[Rat.one_mul,Rat.mul_assoc,Rat.mul_comm (1+ -(qv d)),i2,Rat.mul_one]at h4
    exact h4
   have h55:pw (-(N:Int))<pw (-54):=pw_lt (by omega)
   have h2N:2^1≤2^N:=Nat.pow_le_pow_right (by decide) (by omega)
   refine⟨2^60-1,-60,2^N-1,-(N:Int),⟨by decide,?_,by rw[←e2];decide⟩,⟨by omega,?_,by rw[←e2];decide⟩,by rw[b60];exact k1,by rw[below_m];exact k2⟩
   ·rw[round_below (by rw[b60];grind) (by rw[b60];have:=pw_pos (-60);grind),e1,e2]
   ·rw[round_below (by rw[below_m];grind) (by rw[below_m];grind),e1,e2]
 ·obtain⟨n,lo,hi,⟨k,L,H,-,-,-,o⟩,⟨n1,n2⟩,o1,o2⟩:=run_rg hr
  refine⟨_,_,_,_,o1,o2,?_,?_⟩
  ·rw[←qv_size n1];exact o.x1
  ·rw[←qv_size n2];exact o.x2
end Go.Proofs.YtffaefjkpipjnaaGreatDoor
