/- expln.run's closure over a hold, told by hold's contract. Conditions: hold answers with ends above nought. (Printed by wip/gen/gen_run1.py.) -/
import Derived.Test.YtffaefjkpipjnaaGreatDoorPkB13
import Derived.Test.YtffaefjkpipjnaaGreatDoorPkB22
import Derived.Test.YtffaefjkpipjnaaGreatDoorPkB30
import Derived.Test.YtffaefjkpipjnaaGreatDoorPkB27
namespace Go.Proofs.YtffaefjkpipjnaaGreatDoor
set_option linter.unusedVariables false
set_option linter.unusedSimpArgs false
set_option maxRecDepth 100000
open Go.RowKit Go.ChangeShapes Go.WideShapes
set_option maxHeartbeats 1000000 in
theorem run1_ex1 {w:World}{g0 g1 g2 n:Nat}{neg:Bool}{dir fr pt:Int}{Iv:Nat→Dn→Dn→Prop}{p0 p1:Value}(hT:Tab w) (d0:0≤dir) (d3:dir≤3) (P0:Blk w g0 #[.func (.func 71) #[] #[p0,p1]]) (P1:Blk w g1 #[.bool neg]) (P2:Blk w g2 #[.int .i64 dir,.int .i64 fr,.int .i64 pt,.pointer none])
 (HH:∀w',Below w.heap.size w w'→Calls Tryz.prog 71 #[.int .i64 (n:Int),p0,p1] w' (fun e w''=>∃n1 m1 f1 n2 m2 f2 x y,e= .returned (.tuple #[.agg #[.bool n1,x,.int .i64 f1,.bool n2,y,.int .i64 f2],.int .i64 0])∧(Iv n ⟨n1,m1,f1⟩ ⟨n2,m2,f2⟩∧BareI ⟨n1,m1,f1⟩ ⟨n2,m2,f2⟩)∧RdN w'' x (digs BB m1)∧RdN w'' y (digs BB m2)∧Below w'.heap.size w' w'')):
 Calls Tryz.prog 57 #[.int .i64 (n:Int),.pointer (some ⟨g0,0,none⟩),.pointer (some ⟨g1,0,none⟩),.pointer (some ⟨g2,0,none⟩)] w (fun e w'=>∃c ok,e= .returned (.tuple #[.agg c,.bool ok])∧AnsR (PRun Iv neg dir) w' c ok n∧Below w.heap.size w w'):=by
 have HH:=Lib.hid HH
 have B0:=below_alloc w (.cells #[.int .u64 0,.int .u8 0,.int .i64 0,.bool false,.slice none 0 0,.int .i64 0,.bool false,.slice none 0 0,.int .i64 0] 102)
 have R0:=blk_new (w:=w) (T:=102) (c:= #[.int .u64 0,.int .u8 0,.int .i64 0,.bool false,.slice none 0 0,.int .i64 0,.bool false,.slice none 0 0,.int .i64 0])
 have hw0:=P0.1
 have hw1:=P1.1
 have hw2:=P2.1
 have Q0:=P0.below B0
 have Q1:=P1.below B0
 have Q2:=P2.below B0
 go_enter Tryz.func57,Tryz.ntmps57
 go_upto_region 1 with fail
 have hT0:=hT.below B0
 have HH0:=Lib.hid (HH.out _ B0)
 generalize w.alloc (.cells #[.int .u64 0,.int .u8 0,.int .i64 0,.bool false,.slice none 0 0,.int .i64 0,.bool false,.slice none 0 0,.int .i64 0] 102)=w0 at*
 obtain⟨cq0,fq0,sq0⟩:=Q0.open1
 go_upto_region 2 with(first
  |(go_at_call 71;(with_reducible refine HH0.out.mono ?_);rintro e w1 ⟨n1,m1,f1,n2,m2,f2,xv,yv,rfl,⟨hI,hG⟩,x1,y1,HB⟩;obtain⟨ax1,kx1,rfl,-⟩:=x1.view;obtain⟨ay1,ky1,rfl,-⟩:=y1.view)
  |fail)
 have hI:=Lib.hid hI;have hG:=Lib.hid hG
 have hA7:=below_alloc w1 (.cells #[.bool n1,.slice ax1 (digs BB m1).length kx1,.int .i64 f1,.bool n2,.slice ay1 (digs BB m2).length ky1,.int .i64 f2] 70)
 have R7:Blk (w1.alloc (.cells #[.bool n1,.slice ax1 (digs BB m1).length kx1,.int .i64 f1,.bool n2,.slice ay1 (digs BB m2).length ky1,.int .i64 f2] 70)) w1.heap.size #[.bool n1,.slice ax1 (digs BB m1).length kx1,.int .i64 f1,.bool n2,.slice ay1 (digs BB m2).length ky1,.int .i64 f2]:=blk_new
 have T7:=(hT0.below HB).below hA7
 have Qa:=(Q1.below HB).below hA7
 have Qb:=(Q2.below HB).below hA7
 have R0a:=(R0.below HB).below hA7
 have x7:=x1.below hA7
 have y7:=y1.below hA7
 have B7:=(B0.trans (HB.mono B0.size)).trans (hA7.mono (Nat.le_trans B0.size HB.size))
 change Code.wp _ _ _ _ (w1.alloc (.cells #[.bool n1,.slice ax1 (digs BB m1).length kx1,.int .i64 f1,.bool n2,.slice ay1 (digs BB m2).length ky1,.int .i64 f2] 70))
 clear hT0 Q0 Q1 Q2 R0 x1 y1 B0 HH HH0 cq0 fq0 sq0 P0 P1 P2 hT
 generalize w1.alloc (.cells #[.bool n1,.slice ax1 (digs BB m1).length kx1,.int .i64 f1,.bool n2,.slice ay1 (digs BB m2).length ky1,.int .i64 f2] 70)=w7 at*
 generalize w1.heap.size=b7 at*
 have HR:=Lib.hid (dround_g (neg:=neg) x7 y7 T7 hG.out d0 d3)
 clear hA7 HB
 obtain⟨q0,q1,q2,q3,q4,q5,p0',p1',p2',p3',p4',p5',hb7⟩:=R7.open6
 obtain⟨ca,fa,sa⟩:=Qa.open1
 obtain⟨cb0,cb1,cb2,cb3,fb0,fb1,fb2,fb3,sb⟩:=Qb.open4
 go_upto_region 5 with(first
  |(go_at_call 58;(with_reducible refine HR.out.mono ?_);rintro e w8 ⟨b,f,ok,rfl,hdec,h8⟩)
  |fail)
 have R8:=R7.below h8
 have R0b:=R0a.below h8
 have x8:=x7.below h8
 have y8:=y7.below h8
 have B8:=B7.trans (h8.mono B7.size)
 have hdec:=Lib.hid hdec
 clear R7 R0a x7 y7 B7 h8 HR T7 Qa Qb ca fa sa cb0 cb1 cb2 cb3 fb0 fb1 fb2 fb3 sb q0 q1 q2 q3 q4 q5 p0' p1' p2' p3' p4' p5' hb7
 obtain⟨q0,q1,q2,q3,q4,q5,-⟩:=R8.open6
 obtain⟨s0,s1,s2,s3,s4,s5,s6,s7,s8,s9,s10,s11,s12,s13,s14,s15,s16,s17,s18⟩:=R0b.open9
 go_wp2_with fail
 have RZ:=R0b.set9 (L64 b) (.int .u8 f) (.int .i64 0) (.bool n1) (.slice ax1 (digs BB m1).length kx1) (.int .i64 f1) (.bool n2) (.slice ay1 (digs BB m2).length ky1) (.int .i64 f2)
 have FE:=Fr.set9 (w:=w8) (b:=w.heap.size) (L64 b) (.int .u8 f) (.int .i64 0) (.bool n1) (.slice ax1 (digs BB m1).length kx1) (.int .i64 f1) (.bool n2) (.slice ay1 (digs BB m2).length ky1) (.int .i64 f2)
 have X:Rd (fun g=>g≠w.heap.size) w8 (.slice ax1 (digs BB m1).length kx1) ((digs BB m1).map L64):=RdN.away0 x8 R0b zcells9
 have Y:Rd (fun g=>g≠w.heap.size) w8 (.slice ay1 (digs BB m2).length ky1) ((digs BB m2).map L64):=RdN.away0 y8 R0b zcells9
 have X2:=X.keep FE (fun _ h=>h)
 have Y2:=Y.keep FE (fun _ h=>h)
 have hBf:=B8.trans (FE.below B8.size (fun k hk e=>by omega))
 change bodyPost _ _ _ _ _ ((((((((((w8).setCell ⟨w.heap.size,0,none⟩ (L64 b)).setCell ⟨w.heap.size,1,none⟩ (.int .u8 f)).setCell ⟨w.heap.size,2,none⟩ (.int .i64 0)).setCell ⟨w.heap.size,3,none⟩ (.bool n1)).setCell ⟨w.heap.size,4,none⟩ (.slice ax1 (digs BB m1).length kx1)).setCell ⟨w.heap.size,5,none⟩ (.int .i64 f1)).setCell ⟨w.heap.size,6,none⟩ (.bool n2)).setCell ⟨w.heap.size,7,none⟩ (.slice ay1 (digs BB m2).length ky1)).setCell ⟨w.heap.size,8,none⟩ (.int .i64 f2))
 generalize (((((((((w8).setCell ⟨w.heap.size,0,none⟩ (L64 b)).setCell ⟨w.heap.size,1,none⟩ (.int .u8 f)).setCell ⟨w.heap.size,2,none⟩ (.int .i64 0)).setCell ⟨w.heap.size,3,none⟩ (.bool n1)).setCell ⟨w.heap.size,4,none⟩ (.slice ax1 (digs BB m1).length kx1)).setCell ⟨w.heap.size,5,none⟩ (.int .i64 f1)).setCell ⟨w.heap.size,6,none⟩ (.bool n2)).setCell ⟨w.heap.size,7,none⟩ (.slice ay1 (digs BB m2).length ky1)).setCell ⟨w.heap.size,8,none⟩ (.int .i64 f2)=wf at*
 obtain⟨z0,z1,z2,z3,z4,z5,z6,z7,z8,-⟩:=RZ.open9
 refine bodyPost_ret (v:= .tuple #[.agg #[L64 b,.int .u8 f,.int .i64 0,.bool n1,.slice ax1 (digs BB m1).length kx1,.int .i64 f1,.bool n2,.slice ay1 (digs BB m2).length ky1,.int .i64 f2],.bool ok]) (by simp[results,Tryz.results57,go_sem,z0,z1,z2,z3,z4,z5,z6,z7,z8]) rfl ⟨#[L64 b,.int .u8 f,.int .i64 0,.bool n1,.slice ax1 (digs BB m1).length kx1,.int .i64 f1,.bool n2,.slice ay1 (digs BB m2).length ky1,.int .i64 f2],ok,rfl,⟨b,f,n1,m1,f1,n2,m2,f2,ax1,kx1,ay1,ky1,rfl,⟨hI.out,hG.out,hdec.out⟩,(fun h=>(decG_no (hdec.out.trans (by rw[h]))).1),X2.mono (fun _ _ _=>trivial),Y2.mono (fun _ _ _=>trivial)⟩,hBf⟩
set_option maxHeartbeats 1000000 in
theorem run_ex1 {w:World}{fr pt:Nat}{neg:Bool}{dir:Int}{Iv:Nat→Dn→Dn→Prop}{p0 p1:Value}(hT:Tab w) (h1:32≤fr) (h2:fr≤pt) (h3:64≤pt) (h4:pt≤8192) (d0:0≤dir) (d3:dir≤3)
 (HH:∀w' n,32≤n→n≤pt→Below w.heap.size w w'→Calls Tryz.prog 71 #[.int .i64 (n:Int),p0,p1] w' (fun e w''=>∃n1 m1 f1 n2 m2 f2 x y,e= .returned (.tuple #[.agg #[.bool n1,x,.int .i64 f1,.bool n2,y,.int .i64 f2],.int .i64 0])∧(Iv n ⟨n1,m1,f1⟩ ⟨n2,m2,f2⟩∧BareI ⟨n1,m1,f1⟩ ⟨n2,m2,f2⟩)∧RdN w'' x (digs BB m1)∧RdN w'' y (digs BB m2)∧Below w'.heap.size w' w'')):
 Calls Tryz.prog 30 #[.agg #[.int .i64 dir,.int .i64 (fr:Int),.int .i64 (pt:Int),.pointer none],.bool neg,.func (.func 71) #[] #[p0,p1]] w (fun e w'=>∃l b f st tr,e= .returned (.tuple #[.agg #[L64 b,.int .u8 f,.int .i64 st],.int .i64 tr,.int .i64 0])∧PlanR fr pt l∧RunR Iv neg dir l b f st tr∧Below w.heap.size w w'):=by
 have HH:=Lib.hid HH
 have HP:=Lib.hid (fun w=>plan_ok (w:=w) h1 h2 h3 h4)
 go_enter Tryz.func30,Tryz.ntmps30
 go_upto_region 1 with fail
 have hB1:=below_alloc w (.cells #[.int .i64 dir,.int .i64 (fr:Int),.int .i64 (pt:Int),.pointer none] 33)
 have K1:Blk (w.alloc (.cells #[.int .i64 dir,.int .i64 (fr:Int),.int .i64 (pt:Int),.pointer none] 33)) w.heap.size #[.int .i64 dir,.int .i64 (fr:Int),.int .i64 (pt:Int),.pointer none]:=blk_new
 have z1:(w.alloc (.cells #[.int .i64 dir,.int .i64 (fr:Int),.int .i64 (pt:Int),.pointer none] 33)).heap.size=w.heap.size+1:=by simp
 have T1:=hT.below hB1
 have B1:Below w.heap.size w (w.alloc (.cells #[.int .i64 dir,.int .i64 (fr:Int),.int .i64 (pt:Int),.pointer none] 33)):=hB1
 generalize w.alloc (.cells #[.int .i64 dir,.int .i64 (fr:Int),.int .i64 (pt:Int),.pointer none] 33)=wA at*
 (try rw[←z1])
 clear z1 hB1
 have hB2:=below_alloc wA (.cells #[.bool neg] 4)
 have K2:Blk (wA.alloc (.cells #[.bool neg] 4)) wA.heap.size #[.bool neg]:=blk_new
 have z2:(wA.alloc (.cells #[.bool neg] 4)).heap.size=wA.heap.size+1:=by simp
 replace K1:=K1.below hB2
 have T2:=T1.below hB2
 have B2:Below w.heap.size w (wA.alloc (.cells #[.bool neg] 4)):=B1.trans (hB2.mono B1.size)
 generalize wA.alloc (.cells #[.bool neg] 4)=wB at*
 (try rw[←z2])
 clear z2 hB2 T1 B1
 have hB3:=below_alloc wB (.cells #[.func (.func 71) #[] #[p0,p1]] 77)
 have K3:Blk (wB.alloc (.cells #[.func (.func 71) #[] #[p0,p1]] 77)) wB.heap.size #[.func (.func 71) #[] #[p0,p1]]:=blk_new
 have z3:(wB.alloc (.cells #[.func (.func 71) #[] #[p0,p1]] 77)).heap.size=wB.heap.size+1:=by simp
 replace K1:=K1.below hB3
 replace K2:=K2.below hB3
 have T3:=T2.below hB3
 have B3:Below w.heap.size w (wB.alloc (.cells #[.func (.func 71) #[] #[p0,p1]] 77)):=B2.trans (hB3.mono B2.size)
 generalize wB.alloc (.cells #[.func (.func 71) #[] #[p0,p1]] 77)=wC at*
 (try rw[←z3])
 clear z3 hB3 T2 B2
 have hwC:w.heap.size≤wC.heap.size:=B3.size
 have hB4:=below_alloc wC (.cells #[.int .u64 0,.int .u8 0,.int .i64 0] 38)
 have K4:Blk (wC.alloc (.cells #[.int .u64 0,.int .u8 0,.int .i64 0] 38)) wC.heap.size #[.int .u64 0,.int .u8 0,.int .i64 0]:=blk_new
 have z4:(wC.alloc (.cells #[.int .u64 0,.int .u8 0,.int .i64 0] 38)).heap.size=wC.heap.size+1:=by simp
 replace K1:=K1.below hB4
 replace K2:=K2.below hB4
 replace K3:=K3.below hB4
 have T4:=T3.below hB4
 have B4:Below w.heap.size w (wC.alloc (.cells #[.int .u64 0,.int .u8 0,.int .i64 0] 38)):=B3.trans (hB4.mono B3.size)
 generalize wC.alloc (.cells #[.int .u64 0,.int .u8 0,.int .i64 0] 38)=wD at*
 (try rw[←z4])
 clear z4 hB4 T3 B3
 clear hT
 obtain⟨c30,c31,c32,c33,f30,f31,f32,f33,s3⟩:=K1.open4
 go_upto_region 3 with(first
  |(go_at_call 44;(with_reducible refine(HP.out _).mono ?_);rintro e w1 ⟨v1,l,rfl,hl1,hr1,h1⟩;have K1':=K1.below h1;have K2':=K2.below h1;have K3':=K3.below h1;have K4':=K4.below h1;have T1:=T4.below h1;have B1:=B4.trans (h1.mono B4.size);obtain⟨c30,c31,c32,c33,f30,f31,f32,f33,s3⟩:=K1'.open4;have HR1:=Lib.hid (fun w' (n:Nat) (hn:n∈l) (hb:Below w1.heap.size w1 w')=>run1_ex1 (Iv:=Iv) (neg:=neg) (n:=n) (T1.below hb) d0 d3 (K3'.below hb) (K2'.below hb) (K1'.below hb) (fun w'' hb2=>HH.out w'' n (hl1.1 n hn).1 (hl1.1 n hn).2.2 ((B1.trans (hb.mono B1.size)).trans (hb2.mono (Nat.le_trans B1.size hb.size))))))
  |(go_at_call 56;(with_reducible refine(cgo_f (P:=PRun Iv neg dir) hr1 hl1.2.2.1 hl1.2.1 HR1.out).mono ?_);rintro e w2 ⟨b,f,n1,m1,e1,n2,m2,e2,a1,k1,a2,k2,nb,tr,en,rfl,hres,x2,y2,h2⟩)
  |fail)
 have hres:=Lib.hid hres
 have hPl:=Lib.hid hl1.2.2.2
 have hA:=below_alloc w2 (.cells #[L64 b,.int .u8 f,.int .i64 0,.bool n1,.slice a1 (digs BB m1).length k1,.int .i64 e1,.bool n2,.slice a2 (digs BB m2).length k2,.int .i64 e2,.int .i64 nb,.int .i64 tr,.int .i64 en] 105)
 have R12:Blk (w2.alloc (.cells #[L64 b,.int .u8 f,.int .i64 0,.bool n1,.slice a1 (digs BB m1).length k1,.int .i64 e1,.bool n2,.slice a2 (digs BB m2).length k2,.int .i64 e2,.int .i64 nb,.int .i64 tr,.int .i64 en] 105)) w2.heap.size #[L64 b,.int .u8 f,.int .i64 0,.bool n1,.slice a1 (digs BB m1).length k1,.int .i64 e1,.bool n2,.slice a2 (digs BB m2).length k2,.int .i64 e2,.int .i64 nb,.int .i64 tr,.int .i64 en]:=blk_new
 have Ka:=(K1'.below h2).below hA
 have Kb:=(K2'.below h2).below hA
 have Kd:=(K4'.below h2).below hA
 have Ta:=(T1.below h2).below hA
 have Ba:=(B1.trans (h2.mono B1.size)).trans (hA.mono (Nat.le_trans B1.size h2.size))
 have xa:=x2.below hA
 have ya:=y2.below hA
 have hlt:wC.heap.size<w2.heap.size:=by have:=K4'.1;have:=h2.size;omega
 change Code.wp _ _ _ _ (w2.alloc (.cells #[L64 b,.int .u8 f,.int .i64 0,.bool n1,.slice a1 (digs BB m1).length k1,.int .i64 e1,.bool n2,.slice a2 (digs BB m2).length k2,.int .i64 e2,.int .i64 nb,.int .i64 tr,.int .i64 en] 105))
 clear T1 B1 K1' K2' K3' K4' h2 hA x2 y2 HR1 HP HH hl1 hr1 h1 c30 c31 c32 c33 f30 f31 f32 f33 s3 K1 K2 K3 K4 T4 B4
 generalize w2.alloc (.cells #[L64 b,.int .u8 f,.int .i64 0,.bool n1,.slice a1 (digs BB m1).length k1,.int .i64 e1,.bool n2,.slice a2 (digs BB m2).length k2,.int .i64 e2,.int .i64 nb,.int .i64 tr,.int .i64 en] 105)=wa at*
 generalize w2.heap.size=b9 at*
 obtain⟨q0,q1,q2,q3,q4,q5,q6,q7,q8,q9,q10,q11,q12,q13,q14,q15,q16,q17,q18,q19,q20,q21,q22,q23,q24⟩:=R12.open12
 obtain⟨c30,c31,c32,c33,f30,f31,f32,f33,s3⟩:=Ka.open4
 obtain⟨c40,f40,s4⟩:=Kb.open1
 obtain⟨c60,c61,c62,f60,f61,f62,s6⟩:=Kd.open3
 have hne:b9≠wC.heap.size:=by omega
 rcases hres.out with⟨rfl,i,n,hi,ht,hn,hF,hP⟩|⟨rfl,ht,hF,n,hn,rfl,hP⟩
 ·have hQ:=Lib.hid (show RunR Iv neg dir l b f 0 tr from .inl ⟨rfl,i,n,_,_,hi,hn,ht,hF,hP⟩)
  clear hres hP hF hn ht hi
  go_upto_region 4 with fail
  go_region_held3 (fun w'=>w'.cell? ⟨b9,0,none⟩=some (L64 b)∧w'.cell? ⟨b9,1,none⟩=some (.int .u8 f)∧w'.cell? ⟨b9,2,none⟩=some (.int .i64 0)∧w'.cell? ⟨b9,10,none⟩=some (.int .i64 tr))
   (refine cells12 (x3:= .bool n1) (x4:= .slice a1 (digs BB m1).length k1) (x5:= .int .i64 e1) (x6:= .bool n2) (x7:= .slice a2 (digs BB m2).length k2) (x8:= .int .i64 e2) (x9:= .int .i64 nb) (x11:= .int .i64 0) ?_<;>(repeat' (first|with_reducible assumption|with_reducible exact blk_new|with_reducible exact blk_a2|with_reducible exact Below.refl _ _|with_reducible refine Blk.set3z ?_ _ _ _|with_reducible refine Blk.other3 ?_ ?_ _ _ _|with_reducible refine Blk.next ?_|with_reducible refine Blk.dr ?_|with_reducible refine bel_dr ?_|with_reducible refine bel_set3 ?_ ?_ _ _ _|with_reducible refine bel_next ?_|with_reducible refine RdD.set3z ?_ ?_ _ _ _|with_reducible refine RdN.set3z ?_ ?_ _ _ _|with_reducible refine RdD.below ?_ (below_alloc _ _)|with_reducible refine RdN.below ?_ (below_alloc _ _)|((try simp only[size_alloc,size_drew]);omega))))
   (first|fail)
  go_wp2_with fail
  obtain⟨z0,z1,z2,-⟩:=(Kd.set3 (L64 b) (.int .u8 f) (.int .i64 0)).dr.open3
  refine bodyPost_ret (v:= .tuple #[.agg #[L64 b,.int .u8 f,.int .i64 0],.int .i64 tr,.int .i64 0]) (by simp[results,Tryz.results30,go_sem,z0,z1,z2]) rfl ⟨l,_,_,_,_,rfl,hPl.out,hQ.out,below_drewN (below_set3b Ba hwC _ _ _) 1⟩
 ·obtain rfl:f=0:=(decG_no hP.2.2).2
  have HL:=Lib.hid (dloose_g (neg:=neg) xa ya Ta hP.2.1 d0 d3)
  have hQ0:=Lib.hid (fun ok b' f' b f (h:looseG neg ⟨n1,m1,e1⟩ ⟨n2,m2,e2⟩ dir=(ok,b',f')) (e:(b,f)=if ok then(b',f')else(9221120237041090560,1))=>show RunR Iv neg dir l b f 1 tr from .inr ⟨rfl,ht,hF,n,_,_,ok,b',f',hn,hP,h,e⟩)
  clear hres hP hF hn ht xa ya Ta
  go_upto_region 6 with(first
   |(go_at_call 59;(with_reducible refine HL.out.mono ?_);rintro e w8 ⟨b',f',ok,rfl,hlo,h8⟩)
   |fail)
  have R8:=R12.below h8
  have lo8:wC.heap.size<w8.heap.size:=Nat.lt_of_lt_of_le s6 h8.size
  obtain⟨v0,v1,v2,v3,v4,v5,v6,v7,v8,v9,v10,v11,v12,v13,v14,v15,v16,v17,v18,v19,v20,v21,v22,v23,v24⟩:=R8.open12
  have K8:=Kd.below h8
  obtain⟨c80,c81,c82,f80,f81,f82,s8⟩:=K8.open3
  have o0:bits BinOp.or IntKind.u8 0 1=1:=by decide
  have o1:bits BinOp.or IntKind.u8 1 1=1:=by decide
  have o3:bits BinOp.or IntKind.u8 3 1=3:=by decide
  have o5:bits BinOp.or IntKind.u8 5 1=5:=by decide
  rcases loose_flags hlo with⟨rfl,hf⟩|⟨rfl,rfl,rfl⟩
  ·have hQ:=Lib.hid (hQ0.out true b' f' b' f' hlo rfl)
   clear hQ0 hlo
   rcases hf with rfl|rfl|rfl
   ·
    go_upto_region 8 with fail
    go_region_held3 (fun w'=>w'.cell? ⟨b9,10,none⟩=some (.int .i64 tr))
     (refine cells12t (x0:=L64 0) (x1:= .int .u8 0) (x2:= .int .i64 0) (x3:= .bool n1) (x4:= .slice a1 (digs BB m1).length k1) (x5:= .int .i64 e1) (x6:= .bool n2) (x7:= .slice a2 (digs BB m2).length k2) (x8:= .int .i64 e2) (x9:= .int .i64 nb) (x11:= .int .i64 2) ?_<;>(repeat' (first|with_reducible assumption|with_reducible exact blk_new|with_reducible exact blk_a2|with_reducible exact Below.refl _ _|with_reducible refine Blk.set3z ?_ _ _ _|with_reducible refine Blk.other3 ?_ ?_ _ _ _|with_reducible refine Blk.next ?_|with_reducible refine Blk.dr ?_|with_reducible refine bel_dr ?_|with_reducible refine bel_set3 ?_ ?_ _ _ _|with_reducible refine bel_next ?_|with_reducible refine RdD.set3z ?_ ?_ _ _ _|with_reducible refine RdN.set3z ?_ ?_ _ _ _|with_reducible refine RdD.below ?_ (below_alloc _ _)|with_reducible refine RdN.below ?_ (below_alloc _ _)|((try simp only[size_alloc,size_drew]);omega))))
     (first|fail)
    go_wp2_with fail
    obtain⟨z0,z1,z2,-⟩:=((Kd.below h8).set3 (L64 b') (.int .u8 1) (.int .i64 1)).dr.open3
    refine bodyPost_ret (v:= .tuple #[.agg #[L64 b',.int .u8 1,.int .i64 1],.int .i64 tr,.int .i64 0]) (by simp[results,Tryz.results30,go_sem,z0,z1,z2]) rfl ⟨l,_,_,_,_,rfl,hPl.out,hQ.out,below_drewN (below_set3b (Ba.trans (h8.mono Ba.size)) hwC _ _ _) 1⟩
   ·
    go_upto_region 8 with fail
    go_region_held3 (fun w'=>w'.cell? ⟨b9,10,none⟩=some (.int .i64 tr))
     (refine cells12t (x0:=L64 0) (x1:= .int .u8 0) (x2:= .int .i64 0) (x3:= .bool n1) (x4:= .slice a1 (digs BB m1).length k1) (x5:= .int .i64 e1) (x6:= .bool n2) (x7:= .slice a2 (digs BB m2).length k2) (x8:= .int .i64 e2) (x9:= .int .i64 nb) (x11:= .int .i64 2) ?_<;>(repeat' (first|with_reducible assumption|with_reducible exact blk_new|with_reducible exact blk_a2|with_reducible exact Below.refl _ _|with_reducible refine Blk.set3z ?_ _ _ _|with_reducible refine Blk.other3 ?_ ?_ _ _ _|with_reducible refine Blk.next ?_|with_reducible refine Blk.dr ?_|with_reducible refine bel_dr ?_|with_reducible refine bel_set3 ?_ ?_ _ _ _|with_reducible refine bel_next ?_|with_reducible refine RdD.set3z ?_ ?_ _ _ _|with_reducible refine RdN.set3z ?_ ?_ _ _ _|with_reducible refine RdD.below ?_ (below_alloc _ _)|with_reducible refine RdN.below ?_ (below_alloc _ _)|((try simp only[size_alloc,size_drew]);omega))))
     (first|fail)
    go_wp2_with fail
    obtain⟨z0,z1,z2,-⟩:=((Kd.below h8).set3 (L64 b') (.int .u8 3) (.int .i64 1)).dr.open3
    refine bodyPost_ret (v:= .tuple #[.agg #[L64 b',.int .u8 3,.int .i64 1],.int .i64 tr,.int .i64 0]) (by simp[results,Tryz.results30,go_sem,z0,z1,z2]) rfl ⟨l,_,_,_,_,rfl,hPl.out,hQ.out,below_drewN (below_set3b (Ba.trans (h8.mono Ba.size)) hwC _ _ _) 1⟩
   ·
    go_upto_region 8 with fail
    go_region_held3 (fun w'=>w'.cell? ⟨b9,10,none⟩=some (.int .i64 tr))
     (refine cells12t (x0:=L64 0) (x1:= .int .u8 0) (x2:= .int .i64 0) (x3:= .bool n1) (x4:= .slice a1 (digs BB m1).length k1) (x5:= .int .i64 e1) (x6:= .bool n2) (x7:= .slice a2 (digs BB m2).length k2) (x8:= .int .i64 e2) (x9:= .int .i64 nb) (x11:= .int .i64 2) ?_<;>(repeat' (first|with_reducible assumption|with_reducible exact blk_new|with_reducible exact blk_a2|with_reducible exact Below.refl _ _|with_reducible refine Blk.set3z ?_ _ _ _|with_reducible refine Blk.other3 ?_ ?_ _ _ _|with_reducible refine Blk.next ?_|with_reducible refine Blk.dr ?_|with_reducible refine bel_dr ?_|with_reducible refine bel_set3 ?_ ?_ _ _ _|with_reducible refine bel_next ?_|with_reducible refine RdD.set3z ?_ ?_ _ _ _|with_reducible refine RdN.set3z ?_ ?_ _ _ _|with_reducible refine RdD.below ?_ (below_alloc _ _)|with_reducible refine RdN.below ?_ (below_alloc _ _)|((try simp only[size_alloc,size_drew]);omega))))
     (first|fail)
    go_wp2_with fail
    obtain⟨z0,z1,z2,-⟩:=((Kd.below h8).set3 (L64 b') (.int .u8 5) (.int .i64 1)).dr.open3
    refine bodyPost_ret (v:= .tuple #[.agg #[L64 b',.int .u8 5,.int .i64 1],.int .i64 tr,.int .i64 0]) (by simp[results,Tryz.results30,go_sem,z0,z1,z2]) rfl ⟨l,_,_,_,_,rfl,hPl.out,hQ.out,below_drewN (below_set3b (Ba.trans (h8.mono Ba.size)) hwC _ _ _) 1⟩
  ·have hQ:=Lib.hid (hQ0.out false 0 0 9221120237041090560 1 hlo rfl)
   clear hQ0 hlo
   go_upto_region 8 with fail
   go_region_held3 (fun w'=>w'.cell? ⟨b9,10,none⟩=some (.int .i64 tr))
    (refine cells12t (x0:=L64 0) (x1:= .int .u8 0) (x2:= .int .i64 0) (x3:= .bool n1) (x4:= .slice a1 (digs BB m1).length k1) (x5:= .int .i64 e1) (x6:= .bool n2) (x7:= .slice a2 (digs BB m2).length k2) (x8:= .int .i64 e2) (x9:= .int .i64 nb) (x11:= .int .i64 2) ?_<;>(repeat' (first|with_reducible assumption|with_reducible exact blk_new|with_reducible exact blk_a2|with_reducible exact Below.refl _ _|with_reducible refine Blk.set3z ?_ _ _ _|with_reducible refine Blk.other3 ?_ ?_ _ _ _|with_reducible refine Blk.next ?_|with_reducible refine Blk.dr ?_|with_reducible refine bel_dr ?_|with_reducible refine bel_set3 ?_ ?_ _ _ _|with_reducible refine bel_next ?_|with_reducible refine RdD.set3z ?_ ?_ _ _ _|with_reducible refine RdN.set3z ?_ ?_ _ _ _|with_reducible refine RdD.below ?_ (below_alloc _ _)|with_reducible refine RdN.below ?_ (below_alloc _ _)|((try simp only[size_alloc,size_drew]);omega))))
    (first|fail)
   go_wp2_with fail
   obtain⟨z0,z1,z2,-⟩:=((Kd.below h8).set3 (.int .u64 9221120237041090560) (.int .u8 1) (.int .i64 1)).dr.open3
   refine bodyPost_ret (v:= .tuple #[.agg #[.int .u64 9221120237041090560,.int .u8 1,.int .i64 1],.int .i64 tr,.int .i64 0]) (by simp[results,Tryz.results30,go_sem,z0,z1,z2]) rfl ⟨l,_,_,_,_,rfl,hPl.out,hQ.out,below_drewN (below_set3b (Ba.trans (h8.mono Ba.size)) hwC _ _ _) 1⟩
def IvEx1 (d:Dn) (neg:Bool) (n:Nat) (lo hi:Dn):Prop:=∃l h k,ExpT d l h (n+192) k∧qv lo=(if neg then-(qv h+(-1:Int))else qv l+(-1:Int))∧qv hi=(if neg then-(qv l+(-1:Int))else qv h+(-1:Int))
theorem mid_bare2 {lo hi:Dn}(a:Mid 24901 lo) (b:Mid 24901 hi) (qa:bareD lo=lo) (qb:bareD hi=hi):BareI lo hi:=by
 have:=a.bits;have:=b.bits
 obtain⟨a1,a2,a3⟩:=a
 obtain⟨b1,b2,b3⟩:=b
 exact⟨qa,qb,by unfold fitsE;simp;omega,by unfold fitsE;simp;omega,by omega,by omega⟩
set_option maxHeartbeats 1000000 in
theorem ex11_n {w:World}{v:Value}{b n' neg:Bool}{M n g g1:Nat}{E:Int}(h:RdN w v (digs BB M)) (hT:Tab w) (hm:Mid 1100 ⟨n',M,E⟩) (q:bareD ⟨n',M,E⟩=⟨n',M,E⟩) (gd:rightB M E=true) (d1: -1024<qv ⟨n',M,E⟩) (d2:qv ⟨n',M,E⟩<1024) (s1:32≤n) (s2:n≤7000) (P:Blk w g #[.bool n',v,.int .i64 E]) (P1:Blk w g1 #[.bool neg]):
 Calls Tryz.prog 71 #[.int .i64 (n:Int),.pointer (some ⟨g,0,none⟩),.pointer (some ⟨g1,0,none⟩)] w (fun e w'=>∃n1 m1 f1 n2 m2 f2 x y,e= .returned (.tuple #[.agg #[.bool n1,x,.int .i64 f1,.bool n2,y,.int .i64 f2],.int .i64 0])∧
  (IvEx1 ⟨n',M,E⟩ neg n ⟨n1,m1,f1⟩ ⟨n2,m2,f2⟩∧BareI ⟨n1,m1,f1⟩ ⟨n2,m2,f2⟩)∧RdN w' x (digs BB m1)∧RdN w' y (digs BB m2)∧Below w.heap.size w w'):=by
 obtain⟨av,kv,rfl,-,-,-,-⟩:=h.view
 have sM:=hm.bits;have r1:=hm.1;have r2:=hm.2.1
 dsimp only at sM r1 r2
 have HE:=Lib.hid (fun w v (h:RdN w v (digs BB M)) (hT:Tab w)=>Exp_t (s:=n+192) (h.num (by omega)) (h.num (by omega)) hT (by omega) (by omega) q gd (by omega) (by omega) (by omega))
 rw[show(((n+192:Nat)):Int)=(n:Int)+192 from rfl]at HE
 have HA:=Lib.hid (fun w=>eat_n (w:=w) (n:=n') (a:=av) (l:=(digs BB M).length) (k:=kv) (e:=E))
 have hw:IntKind.i64.wrap ((n:Int)+192)=((n+192:Nat):Int):=by rw[IntKind.wrap_i64];omega
 have B0:=below_alloc w (.cells #[.bool false,.slice none 0 0,.int .i64 0,.bool false,.slice none 0 0,.int .i64 0] 70 (0,0))
 have P0:=P.below B0
 have N0:=P1.below B0
 have R0:=blk_new (w:=w) (T:=70) (c:= #[.bool false,.slice none 0 0,.int .i64 0,.bool false,.slice none 0 0,.int .i64 0])
 have hg:=P.1
 have hg1:=P1.1
 have HD:=Lib.hid (And.intro d1 (And.intro d2 (And.intro s1 s2)))
 clear q hm gd d1 d2
 go_enter Tryz.func71,Tryz.ntmps71
 go_upto_region 1 with fail
 obtain⟨cP0,cP1,cP2,fP0,fP1,fP2,sP⟩:=P0.open3
 obtain⟨cN0,fN0,sN⟩:=N0.open1
 go_upto_region 4 with
  (first
    |(go_at_call 28;(with_reducible refine(HA.out _).mono ?_);rintro e w1 ⟨rfl,hb1⟩;have B1:=B0.trans (hb1.mono B0.size);have h1:=((h.below B0)).below hb1;have T1:=((hT.below B0)).below hb1;have R1:=R0.below hb1;have N1:=N0.below hb1;clear R0 N0;obtain⟨cR0_1,cR1_1,cR2_1,cR3_1,cR4_1,cR5_1,fR0_1,fR1_1,fR2_1,fR3_1,fR4_1,fR5_1,sR_1⟩:=R1.open6;obtain⟨cN0_1,fN0_1,sN_1⟩:=N1.open1)
    |(go_at_call 32;(with_reducible refine(HE.out _ _ h1 T1).mono ?_);rintro e w2 ⟨p1,k1,f1,p2,k2,f2,xv,yv,er,rfl,hO,x2,y2,hb2⟩;have B2:=B1.trans (hb2.mono B1.size);have h2:=h1.below hb2;have T2:=T1.below hb2;have R2:=R1.below hb2;have N2:=N1.below hb2;clear h1 T1 R1 N1;clear cR0_1 cR1_1 cR2_1 cR3_1 cR4_1 cR5_1 fR0_1 fR1_1 fR2_1 fR3_1 fR4_1 fR5_1 sR_1;obtain⟨cR0_2,cR1_2,cR2_2,cR3_2,cR4_2,cR5_2,fR0_2,fR1_2,fR2_2,fR3_2,fR4_2,fR5_2,sR_2⟩:=R2.open6;clear cN0_1 fN0_1 sN_1;obtain⟨cN0_2,fN0_2,sN_2⟩:=N2.open1;obtain⟨ax2,kx2,rfl,-⟩:=x2.view;(try simp only[List.length_nil]at x2);obtain⟨ay2,ky2,rfl,-⟩:=y2.view;(try simp only[List.length_nil]at y2);obtain⟨rfl,k,ho⟩:er=0∧∃k,ExpT ⟨n',M,E⟩ ⟨p1,k1,f1⟩ ⟨p2,k2,f2⟩ (n+192) k:=(hO.elim id (fun z=>absurd z.2 (by omega))))
    |fail)
 have J3:Blk (w2.alloc (.cells #[.bool p1,.slice ax2 (digs BB k1).length kx2,.int .i64 f1,.bool p2,.slice ay2 (digs BB k2).length ky2,.int .i64 f2] 70 (0,0))) w2.heap.size #[.bool p1,.slice ax2 (digs BB k1).length kx2,.int .i64 f1,.bool p2,.slice ay2 (digs BB k2).length ky2,.int .i64 f2]:=blk_new
 have hA:=below_alloc w2 (.cells #[.bool p1,.slice ax2 (digs BB k1).length kx2,.int .i64 f1,.bool p2,.slice ay2 (digs BB k2).length ky2,.int .i64 f2] 70 (0,0))
 have R3:=R2.below hA
 have N3:=N2.below hA
 have T3:=T2.below hA
 have x3:=x2.below hA
 have y3:=y2.below hA
 have B3:=B2.trans (hA.mono B2.size)
 have l3:w.heap.size<w2.heap.size:=R2.1
 have l4:w.heap.size≤w2.heap.size:=by omega
 obtain⟨md1,md2,md3⟩:k.natAbs≤16384∧Mid 24900 ⟨p1,k1,f1⟩∧Mid 24900 ⟨p2,k2,f2⟩:=by
  obtain⟨L,H,-,-,-,o⟩:=id ho
  exact o.mid2 HD.out.1 HD.out.2.1 (by omega)
 have ss:bitN k1≤20000∧bitN k2≤20000:=by
  obtain⟨L,H,-,-,-,o⟩:=id ho
  exact⟨o.z1.1,o.z2.1⟩
 obtain⟨ss1,ss2⟩:=ss
 clear R2 N2 T2 x2 y2 B2 hA
 generalize w2.alloc (.cells #[.bool p1,.slice ax2 (digs BB k1).length kx2,.int .i64 f1,.bool p2,.slice ay2 (digs BB k2).length ky2,.int .i64 f2] 70 (0,0))=w3 at*
 generalize w2.heap.size=b6 at*
 have HO:=Lib.hid (fun w (hT:Tab w)=>show Calls Tryz.prog 51 #[.int .i64 (-1)] w _ from Of_v (n:= -1) (by decide) (by decide) hT)
 go_cut [7] (fun v7 w'=>v7= .int .i64 0∧∃q1 m1 e1 a1 c1,Blk w' b6 #[.bool q1,.slice a1 (digs BB m1).length c1,.int .i64 e1,.bool p2,.slice ay2 (digs BB k2).length ky2,.int .i64 f2]∧(qv ⟨q1,m1,e1⟩=qv ⟨p1,k1,f1⟩+(-1:Int)∧Mid 24901 ⟨q1,m1,e1⟩∧bareD ⟨q1,m1,e1⟩=⟨q1,m1,e1⟩)∧RdN w' (.slice a1 (digs BB m1).length c1) (digs BB m1)∧RdN w' (.slice ay2 (digs BB k2).length ky2) (digs BB k2)∧Blk w' w.heap.size #[.bool false,.slice none 0 0,.int .i64 0,.bool false,.slice none 0 0,.int .i64 0]∧Below w.heap.size w w')
 case first=>
  obtain⟨cJ0,cJ1,cJ2,cJ3,cJ4,cJ5,fJ0,fJ1,fJ2,fJ3,fJ4,fJ5,sJ⟩:=J3.open6
  have HO':=Lib.hid (fun w' (hb:Below w3.heap.size w3 w')=>HO.out w' (T3.below hb))
  have HM:=Lib.hid (fun w' v n M E (hb:Below w3.heap.size w3 w') (h:RdN w' v (digs BB M)) (hM:Mid 64 ⟨n,M,E⟩)=>Add_v (k:=24900) ((x3.below hb).num (by omega)) (h.num (by have:=hM.bits;dsimp only at this;omega)) (T3.below hb) md2 (hM.mono (by omega)) (by omega) (by omega))
  go_region_with (first
   |(go_at_call 51;(with_reducible refine(HO'.out _ ?hbel).mono ?_);(case hbel=>(repeat' (first|with_reducible assumption|with_reducible exact blk_new|with_reducible exact blk_a2|with_reducible exact Below.refl _ _|with_reducible refine Blk.o1 ?_ ?_ _ _|with_reducible refine Blk.next ?_|with_reducible refine Blk.dr ?_|with_reducible refine bel_dr ?_|with_reducible refine bel_s1 ?_ ?_ _ _|with_reducible refine bel_next ?_|with_reducible refine Rd.s1 ?_ _ _|with_reducible refine RdN.below ?_ (below_alloc _ _)|((try simp only[size_alloc,size_drew,size_set1]);omega))));rintro e wx ⟨n5,m5,e5,vx,rfl,⟨hx1,hx2,hx3⟩,rx,hbx⟩;obtain⟨ax,kx,rfl,-⟩:=rx.view;have Kx:=J3.dr.below hbx;have kox:=Kx.open6)
   |(go_at_call 68;(with_reducible refine(HM.out _ _ _ _ _ ?hbel rx hx2).mono ?_);(case hbel=>(repeat' (first|with_reducible assumption|with_reducible exact blk_new|with_reducible exact blk_a2|with_reducible exact Below.refl _ _|with_reducible refine Blk.o1 ?_ ?_ _ _|with_reducible refine Blk.below ?_ hbx|with_reducible refine Blk.next ?_|with_reducible refine Blk.dr ?_|with_reducible refine bel_dr ?_|with_reducible refine bel_s1 ?_ ?_ _ _|with_reducible refine bel_trans ?_ hbx|with_reducible refine bel_next ?_|with_reducible refine Rd.s1 ?_ _ _|with_reducible refine Rd.bel1 ?_ hbx|with_reducible refine RdN.below ?_ hbx|with_reducible refine RdN.below ?_ (below_alloc _ _)|((try simp only[size_alloc,size_drew,size_set1]);omega))));rintro e wy ⟨n6,m6,e6,vy,rfl,⟨hy1,hy2,hy3⟩,ry,hby⟩;obtain⟨ay,ky,rfl,-⟩:=ry.view;have Ky:=Kx.below hby;have ko:=Ky.open6)
   |fail)
  all_goals
   go_wp2_with fail
   go_meet
   have Bx:=bel_trans (bel_dr (Below.refl _ w3)) hbx
   have By:=bel_trans Bx hby
   refine⟨rfl,n6,m6,e6,ay,ky,Ky.setL _ _ _,⟨by rw[hy1,hx1],hy2,hy3⟩,ry.half Ky dcells6 _ _ _ _ _ _,(y3.below By).half Ky dcells6 _ _ _ _ _ _,(R3.below By).oh (by omega) _ _ _ _ _ _,bel_half (bel_trans B3 By) l4 _ _ _ _ _ _⟩
 case rest=>
  obtain⟨rfl,q1,m1,e1,a1,c1,J4,⟨g1v,g1m,g1b⟩,x4,y4,R4,B4⟩:=hcut
  generalize hwx:wc=w4 at*
  clear hwx J3 x3 y3 T3 R3 B3 N3
  have T4:=hT.below B4
  go_upto_region 5 with fail
  go_cut [7] (fun v7 w'=>v7= .int .i64 0∧∃q2 m2 e2 a2 c2,Blk w' b6 #[.bool q1,.slice a1 (digs BB m1).length c1,.int .i64 e1,.bool q2,.slice a2 (digs BB m2).length c2,.int .i64 e2]∧(qv ⟨q2,m2,e2⟩=qv ⟨p2,k2,f2⟩+(-1:Int)∧Mid 24901 ⟨q2,m2,e2⟩∧bareD ⟨q2,m2,e2⟩=⟨q2,m2,e2⟩)∧RdN w' (.slice a1 (digs BB m1).length c1) (digs BB m1)∧RdN w' (.slice a2 (digs BB m2).length c2) (digs BB m2)∧Blk w' w.heap.size #[.bool false,.slice none 0 0,.int .i64 0,.bool false,.slice none 0 0,.int .i64 0]∧Below w.heap.size w w')
  case first=>
   obtain⟨cJ0,cJ1,cJ2,cJ3,cJ4,cJ5,fJ0,fJ1,fJ2,fJ3,fJ4,fJ5,sJ⟩:=J4.open6
   have HO':=Lib.hid (fun w' (hb:Below w4.heap.size w4 w')=>HO.out w' (T4.below hb))
   have HM:=Lib.hid (fun w' v n M E (hb:Below w4.heap.size w4 w') (h:RdN w' v (digs BB M)) (hM:Mid 64 ⟨n,M,E⟩)=>Add_v (k:=24900) ((y4.below hb).num (by omega)) (h.num (by have:=hM.bits;dsimp only at this;omega)) (T4.below hb) md3 (hM.mono (by omega)) (by omega) (by omega))
   go_region_with (first
    |(go_at_call 51;(with_reducible refine(HO'.out _ ?hbel).mono ?_);(case hbel=>(repeat' (first|with_reducible assumption|with_reducible exact blk_new|with_reducible exact blk_a2|with_reducible exact Below.refl _ _|with_reducible refine Blk.o1 ?_ ?_ _ _|with_reducible refine Blk.next ?_|with_reducible refine Blk.dr ?_|with_reducible refine bel_dr ?_|with_reducible refine bel_s1 ?_ ?_ _ _|with_reducible refine bel_next ?_|with_reducible refine Rd.s1 ?_ _ _|with_reducible refine RdN.below ?_ (below_alloc _ _)|((try simp only[size_alloc,size_drew,size_set1]);omega))));rintro e wx ⟨n5,m5,e5,vx,rfl,⟨hx1,hx2,hx3⟩,rx,hbx⟩;obtain⟨ax,kx,rfl,-⟩:=rx.view;have Kx:=J4.dr.below hbx;have kox:=Kx.open6)
    |(go_at_call 68;(with_reducible refine(HM.out _ _ _ _ _ ?hbel rx hx2).mono ?_);(case hbel=>(repeat' (first|with_reducible assumption|with_reducible exact blk_new|with_reducible exact blk_a2|with_reducible exact Below.refl _ _|with_reducible refine Blk.o1 ?_ ?_ _ _|with_reducible refine Blk.below ?_ hbx|with_reducible refine Blk.next ?_|with_reducible refine Blk.dr ?_|with_reducible refine bel_dr ?_|with_reducible refine bel_s1 ?_ ?_ _ _|with_reducible refine bel_trans ?_ hbx|with_reducible refine bel_next ?_|with_reducible refine Rd.s1 ?_ _ _|with_reducible refine Rd.bel1 ?_ hbx|with_reducible refine RdN.below ?_ hbx|with_reducible refine RdN.below ?_ (below_alloc _ _)|((try simp only[size_alloc,size_drew,size_set1]);omega))));rintro e wy ⟨n6,m6,e6,vy,rfl,⟨hy1,hy2,hy3⟩,ry,hby⟩;obtain⟨ay,ky,rfl,-⟩:=ry.view;have Ky:=Kx.below hby;have ko:=Ky.open6)
    |fail)
   all_goals
    go_wp2_with fail
    go_meet
    have Bx:=bel_trans (bel_dr (Below.refl _ w4)) hbx
    have By:=bel_trans Bx hby
    refine⟨rfl,n6,m6,e6,ay,ky,Ky.setH _ _ _,⟨by rw[hy1,hx1],hy2,hy3⟩,(x4.below By).half Ky dcells6 _ _ _ _ _ _,ry.half Ky dcells6 _ _ _ _ _ _,(R4.below By).oh (by omega) _ _ _ _ _ _,bel_half (bel_trans B4 By) l4 _ _ _ _ _ _⟩
  case rest=>
   obtain⟨rfl,q2,m2,e2,a2,c2,J5,⟨g2v,g2m,g2b⟩,x5,y5,R5,B5⟩:=hcut
   generalize hwx:wc=w5 at*
   clear hwx J4 x4 y4 T4 R4 B4
   have T5:=hT.below B5
   have N5:=P1.below B5
   obtain⟨cJ0,cJ1,cJ2,cJ3,cJ4,cJ5,fJ0,fJ1,fJ2,fJ3,fJ4,fJ5,sJ⟩:=J5.open6
   obtain⟨cN5,fN5,sN5⟩:=N5.open1
   have rc:=R5.open6
   have HS:=Lib.hid (lsz_n (neg:=neg) x5 y5 T5 g1m g2m (by decide) (by decide) g1b g2b)
   clear HO HE HA B0 h hT P P1 hg hg1 T5 HD
   go_wp2_with (first
    |(go_at_call 36;(with_reducible refine HS.out.mono ?_);rintro e w6 ⟨n3,m3,e3,n4,m4,e4,uv,zv,rfl,hS,u6,z6,hb6⟩;obtain⟨au6,ku6,rfl,-⟩:=u6.view;obtain⟨az6,kz6,rfl,-⟩:=z6.view;have R6:=R5.below hb6;have B6:=B5.trans (hb6.mono B5.size);have rc6:=R6.open6)
    |fail)
   obtain⟨t0,t1,t2,t3,t4,t5,-⟩:=(R6.set6 (.bool n3) (.slice au6 (digs BB m3).length ku6) (.int .i64 e3) (.bool n4) (.slice az6 (digs BB m4).length kz6) (.int .i64 e4)).open6
   obtain⟨s1v,s2v,⟨s3v,s4v⟩,s5v,s6v⟩:=hS
   rw[g1v,g2v]at s1v s2v
   refine bodyPost_ret (v:= .tuple #[.agg #[.bool n3,.slice au6 (digs BB m3).length ku6,.int .i64 e3,.bool n4,.slice az6 (digs BB m4).length kz6,.int .i64 e4],.int .i64 0]) (by simp[results,Tryz.results71,go_sem,t0,t1,t2,t3,t4,t5]) rfl ⟨_,_,_,_,_,_,_,_,rfl,⟨⟨_,_,_,ho,s1v,s2v⟩,mid_bare2 s3v s5v s4v s6v⟩,u6.set6 R6 dcells6 _ _ _ _ _ _,z6.set6 R6 dcells6 _ _ _ _ _ _,below_set6 B6 (by omega) _ _ _ _ _ _⟩
def BesR (x:Nat) (dir:Int) (b:Nat) (f:Int):Prop:=∃n m e,bareD ⟨n,m,e⟩=⟨n,m,e⟩∧m≠0∧qv ⟨n,m,e⟩=(if negN x then qv (dyB x)+pw (-1200)else qv (dyB x))∧toB n m e true dir=(b,f)
theorem pw_lt {a b:Int}(h:a<b):pw a<pw b:=by
 have h1:pw (a+1)=pw a*pw 1:=pw_add a 1
 rw[pw_one]at h1
 have h2:=pw_mono (show a+1≤b by omega)
 have h3:=pw_pos a
 grind
theorem bes_ne {n:Bool}{m:Nat}{e:Int}(h0:m≠0) (he: -1100≤e):qv ⟨n,m,e⟩+pw (-1200)≠0:=by
 have h1:pw (-1200)<pw (-1100):=pw_lt (by decide)
 have h2:pw (-1100)≤pw e:=pw_mono he
 have h3:(1:Rat)≤(m:Rat):=by
  have:((1:Nat):Rat)≤(m:Rat):=Rat.natCast_le_natCast.2 (by omega)
  exact this
 have h4:=Rat.mul_le_mul_of_nonneg_right h3 (Rat.le_of_lt (pw_pos e))
 rw[Rat.one_mul]at h4
 have hp:=pw_pos (-1200)
 intro h
 cases n
 ·rw[qv_pos]at h;grind
 ·rw[qv_neg]at h;grind
set_option maxHeartbeats 1000000 in
theorem beside_pos {w:World}{x:Nat}{dir:Int}(hx:x<18446744073709551616) (hT:Tab w) (d0:0≤dir) (d3:dir≤3) (hf:fldN x<2047) (hk0:kindN x≠0) (hn:negN x=false):
 Calls Tryz.prog 70 #[L64 x,.int .i64 dir] w (fun r w'=>∃b f,r= .returned (.tuple #[.agg #[L64 b,.int .u8 f,.int .i64 0],.int .i64 0,.int .i64 0])∧BesR x dir b f∧Below w.heap.size w w'):=by
 have HN:=Lib.hid (fun w=>fneg_n (w:=w) hx)
 rw[hn]at HN
 have hz:=fun h=>hk0 ((kind_zero hf).2 h)
 obtain⟨hm,hb,-,-⟩:=dyB_mid hf
 have hms:=hm.bits;have hm1:=hm.1;have hm2:=hm.2.1
 obtain⟨⟨n',m',e'⟩,hd⟩:∃d,dyB x=d:=⟨_,rfl⟩
 rw[hd]at hz hb hm hms hm1 hm2
 dsimp only at hz hms hm1 hm2
 have hfit:fitsE e'=true:=by unfold fitsE;simp;omega
 obtain⟨⟨b,f⟩,ht⟩:∃p,toB n' m' e' true dir=p:=⟨_,rfl⟩
 have HD:=Lib.hid (fun w (hT:Tab w)=>fdyad_n (w:=w) hx hT hf hd)
 have HTo:=Lib.hid (fun w v (h:RdN w v (digs BB m')) (hT:Tab w)=>To_any (more:=true) (h.num (by omega)) hT (by omega) (by omega) hb hfit d0 d3 hz (by omega))
 rw[ht]at HTo
 have hQ:=Lib.hid (show BesR x dir b f from⟨n',m',e',hb,hz,by rw[hn,hd,if_neg (by decide)],ht⟩)
 clear hx hn hf hk0 hz hm hb hms hm1 hm2 hd hfit ht
 go_enter Tryz.func70,Tryz.ntmps70
 go_wp2_with
  (first
    |(go_at_call 23;(with_reducible refine(HD.out _ (hT.below (below_alloc _ _))).mono ?_);rintro e w1 ⟨v2,rfl,x1,hb1⟩;have B1:=(below_alloc _ _).trans (hb1.mono (below_alloc _ _).size);have T1:=((hT.below (below_alloc _ _))).below hb1;have R1:=((blk_new)).below hb1;obtain⟨cR0_1,cR1_1,cR2_1,fR0_1,fR1_1,fR2_1,sR_1⟩:=R1.open3;obtain⟨ax1,kx1,rfl,-⟩:=x1.view;try simp only[List.length_nil]at x1)
    |(go_at_call 24;(with_reducible refine(HN.out _).mono ?_);rintro e w2 ⟨rfl,rfl⟩)
    |(go_at_call 55;(with_reducible refine(HTo.out _ _ (x1.below (below_alloc _ _)) (T1.below (below_alloc _ _))).mono ?_);rintro e w3 ⟨rfl,hb3⟩;have hb3':=(below_a hb3);have B3:=B1.trans (hb3'.mono B1.size);have T3:=T1.below hb3';have R3:=R1.below hb3';have x3:=x1.below hb3';clear T1 R1 x1;obtain⟨cR0_3,cR1_3,cR2_3,fR0_3,fR1_3,fR2_3,sR_3⟩:=R3.open3)
    |fail)
 obtain⟨z0,z1,z2,-⟩:=(R3.set3 (L64 b) (.int .u8 f) (.int .i64 0)).open3
 refine bodyPost_ret (v:= .tuple #[.agg #[L64 b,.int .u8 f,.int .i64 0],.int .i64 0,.int .i64 0]) (by simp[results,Tryz.results70,go_sem,z0,z1,z2]) rfl ⟨b,f,rfl,hQ.out,below_set3b B3 (by omega) _ _ _⟩
set_option maxHeartbeats 1000000 in
theorem beside_neg {w:World}{x:Nat}{dir:Int}(hx:x<18446744073709551616) (hT:Tab w) (d0:0≤dir) (d3:dir≤3) (hf:fldN x<2047) (hk0:kindN x≠0) (hn:negN x=true):
 Calls Tryz.prog 70 #[L64 x,.int .i64 dir] w (fun r w'=>∃b f,r= .returned (.tuple #[.agg #[L64 b,.int .u8 f,.int .i64 0],.int .i64 0,.int .i64 0])∧BesR x dir b f∧Below w.heap.size w w'):=by
 have HN:=Lib.hid (fun w=>fneg_n (w:=w) hx)
 rw[hn]at HN
 have hz:=fun h=>hk0 ((kind_zero hf).2 h)
 obtain⟨hm,hb,-,-⟩:=dyB_mid hf
 have hms:=hm.bits;have hm1:=hm.1;have hm2:=hm.2.1
 obtain⟨⟨n',m',e'⟩,hd⟩:∃d,dyB x=d:=⟨_,rfl⟩
 rw[hd]at hz hb hm hms hm1 hm2
 dsimp only at hz hms hm1 hm2
 have HD:=Lib.hid (fun w (hT:Tab w)=>fdyad_n (w:=w) hx hT hf hd)
 have HAd:=Lib.hid (fun w v u (h:RdN w v (digs BB m')) (h':Num w u 1) (hT:Tab w)=>Add_v (n2:=false) (m2:=1) (e2:= -1200) (k:=1300) (h.num (by omega)) h' hT (hm.mono (by decide)) (show Mid 1300 ⟨false,1,-1200⟩by refine⟨by decide,by decide,?_⟩;show(bitN 1:Int)+ -1200≤1300;rw[bitN_one];decide) (by decide) (by decide))
 have HL1:=Lib.hid (fun w:World=>show Num (w.alloc (.cells #[.int .u64 1] 22 (0,0))) (.slice (some ⟨w.heap.size,0,none⟩) 1 1) 1 from RdN.num1 (rd_one (heap_alloc_new _ _) trivial) (show(1:Nat)<BB by decide))
 go_enter Tryz.func70,Tryz.ntmps70
 go_upto_region 3 with
  (first
    |(go_at_call 23;(with_reducible refine(HD.out _ (hT.below (below_alloc _ _))).mono ?_);rintro e w1 ⟨v2,rfl,x1,hb1⟩;have B1:=(below_alloc _ _).trans (hb1.mono (below_alloc _ _).size);have T1:=((hT.below (below_alloc _ _))).below hb1;have R1:=((blk_new)).below hb1;obtain⟨cR0_1,cR1_1,cR2_1,fR0_1,fR1_1,fR2_1,sR_1⟩:=R1.open3;obtain⟨ax1,kx1,rfl,-⟩:=x1.view;try simp only[List.length_nil]at x1)
    |(go_at_call 24;(with_reducible refine(HN.out _).mono ?_);rintro e w2 ⟨rfl,rfl⟩)
    |fail)
 have DD:Blk (w1.alloc (.cells #[.bool n',.slice ax1 (digs BB m').length kx1,.int .i64 e'] 63 (0,0))) w1.heap.size #[.bool n',.slice ax1 (digs BB m').length kx1,.int .i64 e']:=blk_new
 have hA:=below_alloc w1 (.cells #[.bool n',.slice ax1 (digs BB m').length kx1,.int .i64 e'] 63 (0,0))
 have R3:=R1.below hA
 have T3:=T1.below hA
 have x3:=x1.below hA
 have B3:=B1.trans (hA.mono B1.size)
 have l1:w.heap.size<w1.heap.size:=R1.1
 have l2:w.heap.size≤w1.heap.size:=by omega
 clear R1 T1 x1 B1 hA cR0_1 cR1_1 cR2_1 fR0_1 fR1_1 fR2_1 sR_1
 generalize w1.alloc (.cells #[.bool n',.slice ax1 (digs BB m').length kx1,.int .i64 e'] 63 (0,0))=w3 at*
 generalize w1.heap.size=b7 at*
 obtain⟨cD0,cD1,cD2,fD0,fD1,fD2,sD⟩:=DD.open3
 go_upto_region 4 with(first
  |(go_at_call 68;(with_reducible refine(HAd.out _ _ _ (x3.below (below_alloc _ _)) (HL1.out _) (T3.below (below_alloc _ _))).mono ?_);rintro e w4 ⟨n6,m6,e6,v6,rfl,⟨hq,hmm,hbb⟩,r6,h6⟩;obtain⟨a6,k6,rfl,-⟩:=r6.view;have h6':=below_a h6;have D4:=DD.below h6';have R4:=R3.below h6';have T4:=T3.below h6';have B4:=B3.trans (h6'.mono B3.size);have do4:=D4.open3)
  |fail)
 have m60:m6≠0:=fun h=>by
  rw[qv_zero (d:=⟨n6,m6,e6⟩) h]at hq
  have e1:qv ⟨false,1,-1200⟩=pw (-1200):=by rw[qv_pos];exact Rat.one_mul _
  rw[e1]at hq
  exact bes_ne (n:=n') hz hm1 hq.symm
 have hq2:qv ⟨n6,m6,e6⟩=qv ⟨n',m',e'⟩+pw (-1200):=by
  have e1:qv ⟨false,1,-1200⟩=pw (-1200):=by rw[qv_pos];exact Rat.one_mul _
  rw[hq,e1]
 have hmb:=hmm.bits;have hme1:=hmm.1;have hme2:=hmm.2.1
 dsimp only at hmb hme1 hme2
 have hfit:fitsE e6=true:=by unfold fitsE;simp;omega
 obtain⟨⟨b,f⟩,ht⟩:∃p,toB n6 m6 e6 true dir=p:=⟨_,rfl⟩
 have D5:=D4.set3 (.bool n6) (.slice a6 (digs BB m6).length k6) (.int .i64 e6)
 have R5:=R4.oh (show w.heap.size≠b7 by omega) 0 1 2 (.bool n6) (.slice a6 (digs BB m6).length k6) (.int .i64 e6)
 have r5:=r6.half D4 dcells 0 1 2 (.bool n6) (.slice a6 (digs BB m6).length k6) (.int .i64 e6)
 have B5:=bel_half B4 l2 0 1 2 (.bool n6) (.slice a6 (digs BB m6).length k6) (.int .i64 e6)
 generalize ((w4.setCell ⟨b7,0,none⟩ (.bool n6)).setCell ⟨b7,1,none⟩ (.slice a6 (digs BB m6).length k6)).setCell ⟨b7,2,none⟩ (.int .i64 e6)=w5 at*
 have T5:=hT.below B5
 have HTo:=Lib.hid (fun w v (h:RdN w v (digs BB m6)) (hT:Tab w)=>To_any (more:=true) (h.num (by omega)) hT (by omega) (by omega) hbb hfit d0 d3 m60 (by omega))
 rw[ht]at HTo
 have hQ:=Lib.hid (show BesR x dir b f from⟨n6,m6,e6,hbb,m60,by rw[hn,hd,if_pos rfl];exact hq2,ht⟩)
 clear hx hn hf hk0 hz hm hb hms hm1 hm2 hd hfit ht hbb m60 hq hq2 hmm hmb hme1 hme2 HAd HD HN D4 R4 T4 B4 r6 h6 h6' R3 T3 x3 B3 DD cD0 cD1 cD2 fD0 fD1 fD2 sD do4
 obtain⟨cD0,cD1,cD2,fD0,fD1,fD2,sD⟩:=D5.open3
 obtain⟨cR0,cR1,cR2,fR0,fR1,fR2,sR⟩:=R5.open3
 go_wp2_with
  (first
    |(go_at_call 55;(with_reducible refine(HTo.out _ _ r5 T5).mono ?_);rintro e w6 ⟨rfl,hb6⟩;have B6:=B5.trans (hb6.mono B5.size);have x6:=r5.below hb6;have T6:=T5.below hb6;have R6:=R5.below hb6;clear r5 T5 R5;obtain⟨cR0_6,cR1_6,cR2_6,fR0_6,fR1_6,fR2_6,sR_6⟩:=R6.open3)
    |fail)
 obtain⟨z0,z1,z2,-⟩:=(R6.set3 (L64 b) (.int .u8 f) (.int .i64 0)).open3
 refine bodyPost_ret (v:= .tuple #[.agg #[L64 b,.int .u8 f,.int .i64 0],.int .i64 0,.int .i64 0]) (by simp[results,Tryz.results70,go_sem,z0,z1,z2]) rfl ⟨b,f,rfl,hQ.out,below_set3b B6 (by omega) _ _ _⟩
end Go.Proofs.YtffaefjkpipjnaaGreatDoor
