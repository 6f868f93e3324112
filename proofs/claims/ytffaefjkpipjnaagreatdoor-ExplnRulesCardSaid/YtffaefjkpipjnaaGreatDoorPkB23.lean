/- expln.run with a hold, told by hold's contract. Conditions: hold answers with bare ends. (Printed by wip/gen/gen_run2.py.) -/
import Derived.Test.YtffaefjkpipjnaaGreatDoorPkB22
import Derived.Test.YtffaefjkpipjnaaGreatDoorPkB21
import Derived.Test.YtffaefjkpipjnaaGreatDoorPkB01
import Derived.Test.YtffaefjkpipjnaaGreatDoorPkB20
import Derived.Deep.CutBlock
import Derived.Deep.RegionHeld3
import Derived.BigQuiet
namespace Go.Proofs.YtffaefjkpipjnaaGreatDoor
set_option linter.unusedVariables false
set_option linter.unusedSimpArgs false
set_option maxRecDepth 100000
open Go.RowKit Go.ChangeShapes Go.WideShapes
set_option maxHeartbeats 1000000 in
theorem run_exp {w:World}{fr pt:Nat}{neg:Bool}{dir:Int}{Iv:Nat→Dn→Dn→Prop}{p0:Value}(hT:Tab w) (h1:32≤fr) (h2:fr≤pt) (h3:64≤pt) (h4:pt≤8192) (d0:0≤dir) (d3:dir≤3)
 (HH:∀w' n,32≤n→n≤pt→Below w.heap.size w w'→Calls Tryz.prog 31 #[.int .i64 (n:Int),p0] w' (fun e w''=>∃n1 m1 f1 n2 m2 f2 x y,e= .returned (.tuple #[.agg #[.bool n1,x,.int .i64 f1,.bool n2,y,.int .i64 f2],.int .i64 0])∧(Iv n ⟨n1,m1,f1⟩ ⟨n2,m2,f2⟩∧BareI ⟨n1,m1,f1⟩ ⟨n2,m2,f2⟩)∧RdN w'' x (digs BB m1)∧RdN w'' y (digs BB m2)∧Below w'.heap.size w' w'')):
 Calls Tryz.prog 30 #[.agg #[.int .i64 dir,.int .i64 (fr:Int),.int .i64 (pt:Int),.pointer none],.bool neg,.func (.func 31) #[] #[p0]] w (fun e w'=>∃l b f st tr,e= .returned (.tuple #[.agg #[L64 b,.int .u8 f,.int .i64 st],.int .i64 tr,.int .i64 0])∧PlanR fr pt l∧RunR Iv neg dir l b f st tr∧Below w.heap.size w w'):=by
 have HH:=Lib.hid HH
 have HP:=Lib.hid (fun w=>plan_ok (w:=w) h1 h2 h3 h4)
 go_enter Tryz.func30,Tryz.ntmps30
 go_upto_region 1 with fail
 have hB1:=below_alloc w (.cells #[.int .i64 dir,.int .i64 (fr:Int),.int .i64 (pt:Int),.pointer none] 33)
 have K1:Blk (w.alloc (.cells #[.int .i64 dir,.int .i64 (fr:Int),.int .i64 (pt:Int),.pointer none] 33)) w.heap.size #[.int .i64 dir,.int .i64 (fr:Int),.int .i64 (pt:Int),.pointer none]:=blk_new
 have z1:(w.alloc (.cells #[.int .i64 dir,.int .i64 (fr:Int),.int .i64 (pt:Int),.pointer none] 33)).heap.size=w.heap.size+1:=by simp
 have T1:=hT.below hB1
 have B1:Below w.heap.size w (w.alloc (.cells #[.int .i64 dir,.int .i64 (fr:Int),.int .i64 (pt:Int),.pointer none] 33)):=hB1
 generalize w.alloc (.cells #[.int .i64 dir,.int .i64 (fr:Int),.int .i64 (pt:Int),.pointer none] 33)=wA at*
 (try rw[←z1])
 clear z1 hB1
 have hB2:=below_alloc wA (.cells #[.bool neg] 4)
 have K2:Blk (wA.alloc (.cells #[.bool neg] 4)) wA.heap.size #[.bool neg]:=blk_new
 have z2:(wA.alloc (.cells #[.bool neg] 4)).heap.size=wA.heap.size+1:=by simp
 replace K1:=K1.below hB2
 have T2:=T1.below hB2
 have B2:Below w.heap.size w (wA.alloc (.cells #[.bool neg] 4)):=B1.trans (hB2.mono B1.size)
 generalize wA.alloc (.cells #[.bool neg] 4)=wB at*
 (try rw[←z2])
 clear z2 hB2 T1 B1
 have hB3:=below_alloc wB (.cells #[.func (.func 31) #[] #[p0]] 77)
 have K3:Blk (wB.alloc (.cells #[.func (.func 31) #[] #[p0]] 77)) wB.heap.size #[.func (.func 31) #[] #[p0]]:=blk_new
 have z3:(wB.alloc (.cells #[.func (.func 31) #[] #[p0]] 77)).heap.size=wB.heap.size+1:=by simp
 replace K1:=K1.below hB3
 replace K2:=K2.below hB3
 have T3:=T2.below hB3
 have B3:Below w.heap.size w (wB.alloc (.cells #[.func (.func 31) #[] #[p0]] 77)):=B2.trans (hB3.mono B2.size)
 generalize wB.alloc (.cells #[.func (.func 31) #[] #[p0]] 77)=wC at*
 (try rw[←z3])
 clear z3 hB3 T2 B2
 have hwC:w.heap.size≤wC.heap.size:=B3.size
 have hB4:=below_alloc wC (.cells #[.int .u64 0,.int .u8 0,.int .i64 0] 38)
 have K4:Blk (wC.alloc (.cells #[.int .u64 0,.int .u8 0,.int .i64 0] 38)) wC.heap.size #[.int .u64 0,.int .u8 0,.int .i64 0]:=blk_new
 have z4:(wC.alloc (.cells #[.int .u64 0,.int .u8 0,.int .i64 0] 38)).heap.size=wC.heap.size+1:=by simp
 replace K1:=K1.below hB4
 replace K2:=K2.below hB4
 replace K3:=K3.below hB4
 have T4:=T3.below hB4
 have B4:Below w.heap.size w (wC.alloc (.cells #[.int .u64 0,.int .u8 0,.int .i64 0] 38)):=B3.trans (hB4.mono B3.size)
 generalize wC.alloc (.cells #[.int .u64 0,.int .u8 0,.int .i64 0] 38)=wD at*
 (try rw[←z4])
 clear z4 hB4 T3 B3
 clear hT
 obtain⟨c30,c31,c32,c33,f30,f31,f32,f33,s3⟩:=K1.open4
 go_upto_region 3 with(first
  |(go_at_call 44;(with_reducible refine(HP.out _).mono ?_);rintro e w1 ⟨v1,l,rfl,hl1,hr1,h1⟩;have K1':=K1.below h1;have K2':=K2.below h1;have K3':=K3.below h1;have K4':=K4.below h1;have T1:=T4.below h1;have B1:=B4.trans (h1.mono B4.size);obtain⟨c30,c31,c32,c33,f30,f31,f32,f33,s3⟩:=K1'.open4;have HR1:=Lib.hid (fun w' (n:Nat) (hn:n∈l) (hb:Below w1.heap.size w1 w')=>run1_exp (Iv:=Iv) (neg:=neg) (n:=n) (T1.below hb) d0 d3 (K3'.below hb) (K2'.below hb) (K1'.below hb) (fun w'' hb2=>HH.out w'' n (hl1.1 n hn).1 (hl1.1 n hn).2.2 ((B1.trans (hb.mono B1.size)).trans (hb2.mono (Nat.le_trans B1.size hb.size))))))
  |(go_at_call 56;(with_reducible refine(cgo_f (P:=PRun Iv neg dir) hr1 hl1.2.2.1 hl1.2.1 HR1.out).mono ?_);rintro e w2 ⟨b,f,n1,m1,e1,n2,m2,e2,a1,k1,a2,k2,nb,tr,en,rfl,hres,x2,y2,h2⟩)
  |fail)
 have hres:=Lib.hid hres
 have hPl:=Lib.hid hl1.2.2.2
 have hA:=below_alloc w2 (.cells #[L64 b,.int .u8 f,.int .i64 0,.bool n1,.slice a1 (digs BB m1).length k1,.int .i64 e1,.bool n2,.slice a2 (digs BB m2).length k2,.int .i64 e2,.int .i64 nb,.int .i64 tr,.int .i64 en] 105)
 have R12:Blk (w2.alloc (.cells #[L64 b,.int .u8 f,.int .i64 0,.bool n1,.slice a1 (digs BB m1).length k1,.int .i64 e1,.bool n2,.slice a2 (digs BB m2).length k2,.int .i64 e2,.int .i64 nb,.int .i64 tr,.int .i64 en] 105)) w2.heap.size #[L64 b,.int .u8 f,.int .i64 0,.bool n1,.slice a1 (digs BB m1).length k1,.int .i64 e1,.bool n2,.slice a2 (digs BB m2).length k2,.int .i64 e2,.int .i64 nb,.int .i64 tr,.int .i64 en]:=blk_new
 have Ka:=(K1'.below h2).below hA
 have Kb:=(K2'.below h2).below hA
 have Kd:=(K4'.below h2).below hA
 have Ta:=(T1.below h2).below hA
 have Ba:=(B1.trans (h2.mono B1.size)).trans (hA.mono (Nat.le_trans B1.size h2.size))
 have xa:=x2.below hA
 have ya:=y2.below hA
 have hlt:wC.heap.size<w2.heap.size:=by have:=K4'.1;have:=h2.size;omega
 change Code.wp _ _ _ _ (w2.alloc (.cells #[L64 b,.int .u8 f,.int .i64 0,.bool n1,.slice a1 (digs BB m1).length k1,.int .i64 e1,.bool n2,.slice a2 (digs BB m2).length k2,.int .i64 e2,.int .i64 nb,.int .i64 tr,.int .i64 en] 105))
 clear T1 B1 K1' K2' K3' K4' h2 hA x2 y2 HR1 HP HH hl1 hr1 h1 c30 c31 c32 c33 f30 f31 f32 f33 s3 K1 K2 K3 K4 T4 B4
 generalize w2.alloc (.cells #[L64 b,.int .u8 f,.int .i64 0,.bool n1,.slice a1 (digs BB m1).length k1,.int .i64 e1,.bool n2,.slice a2 (digs BB m2).length k2,.int .i64 e2,.int .i64 nb,.int .i64 tr,.int .i64 en] 105)=wa at*
 generalize w2.heap.size=b9 at*
 obtain⟨q0,q1,q2,q3,q4,q5,q6,q7,q8,q9,q10,q11,q12,q13,q14,q15,q16,q17,q18,q19,q20,q21,q22,q23,q24⟩:=R12.open12
 obtain⟨c30,c31,c32,c33,f30,f31,f32,f33,s3⟩:=Ka.open4
 obtain⟨c40,f40,s4⟩:=Kb.open1
 obtain⟨c60,c61,c62,f60,f61,f62,s6⟩:=Kd.open3
 have hne:b9≠wC.heap.size:=by omega
 rcases hres.out with⟨rfl,i,n,hi,ht,hn,hF,hP⟩|⟨rfl,ht,hF,n,hn,rfl,hP⟩
 ·have hQ:=Lib.hid (show RunR Iv neg dir l b f 0 tr from .inl ⟨rfl,i,n,_,_,hi,hn,ht,hF,hP⟩)
  clear hres hP hF hn ht hi
  go_upto_region 4 with fail
  go_region_held3 (fun w'=>w'.cell? ⟨b9,0,none⟩=some (L64 b)∧w'.cell? ⟨b9,1,none⟩=some (.int .u8 f)∧w'.cell? ⟨b9,2,none⟩=some (.int .i64 0)∧w'.cell? ⟨b9,10,none⟩=some (.int .i64 tr))
   (refine cells12 (x3:= .bool n1) (x4:= .slice a1 (digs BB m1).length k1) (x5:= .int .i64 e1) (x6:= .bool n2) (x7:= .slice a2 (digs BB m2).length k2) (x8:= .int .i64 e2) (x9:= .int .i64 nb) (x11:= .int .i64 0) ?_<;>(repeat' (first|with_reducible assumption|with_reducible exact blk_new|with_reducible exact blk_a2|with_reducible exact Below.refl _ _|with_reducible refine Blk.set3z ?_ _ _ _|with_reducible refine Blk.other3 ?_ ?_ _ _ _|with_reducible refine Blk.next ?_|with_reducible refine Blk.dr ?_|with_reducible refine bel_dr ?_|with_reducible refine bel_set3 ?_ ?_ _ _ _|with_reducible refine bel_next ?_|with_reducible refine RdD.set3z ?_ ?_ _ _ _|with_reducible refine RdN.set3z ?_ ?_ _ _ _|with_reducible refine RdD.below ?_ (below_alloc _ _)|with_reducible refine RdN.below ?_ (below_alloc _ _)|((try simp only[size_alloc,size_drew]);omega))))
   (first|fail)
  go_wp2_with fail
  obtain⟨z0,z1,z2,-⟩:=(Kd.set3 (L64 b) (.int .u8 f) (.int .i64 0)).dr.open3
  refine bodyPost_ret (v:= .tuple #[.agg #[L64 b,.int .u8 f,.int .i64 0],.int .i64 tr,.int .i64 0]) (by simp[results,Tryz.results30,go_sem,z0,z1,z2]) rfl ⟨l,_,_,_,_,rfl,hPl.out,hQ.out,below_drewN (below_set3b Ba hwC _ _ _) 1⟩
 ·obtain rfl:f=0:=(decG_no hP.2.2).2
  have HL:=Lib.hid (dloose_g (neg:=neg) xa ya Ta hP.2.1 d0 d3)
  have hQ0:=Lib.hid (fun ok b' f' b f (h:looseG neg ⟨n1,m1,e1⟩ ⟨n2,m2,e2⟩ dir=(ok,b',f')) (e:(b,f)=if ok then(b',f')else(9221120237041090560,1))=>show RunR Iv neg dir l b f 1 tr from .inr ⟨rfl,ht,hF,n,_,_,ok,b',f',hn,hP,h,e⟩)
  clear hres hP hF hn ht xa ya Ta
  go_upto_region 6 with(first
   |(go_at_call 59;(with_reducible refine HL.out.mono ?_);rintro e w8 ⟨b',f',ok,rfl,hlo,h8⟩)
   |fail)
  have R8:=R12.below h8
  have lo8:wC.heap.size<w8.heap.size:=Nat.lt_of_lt_of_le s6 h8.size
  obtain⟨v0,v1,v2,v3,v4,v5,v6,v7,v8,v9,v10,v11,v12,v13,v14,v15,v16,v17,v18,v19,v20,v21,v22,v23,v24⟩:=R8.open12
  have K8:=Kd.below h8
  obtain⟨c80,c81,c82,f80,f81,f82,s8⟩:=K8.open3
  have o0:bits BinOp.or IntKind.u8 0 1=1:=by decide
  have o1:bits BinOp.or IntKind.u8 1 1=1:=by decide
  have o3:bits BinOp.or IntKind.u8 3 1=3:=by decide
  have o5:bits BinOp.or IntKind.u8 5 1=5:=by decide
  rcases loose_flags hlo with⟨rfl,hf⟩|⟨rfl,rfl,rfl⟩
  ·have hQ:=Lib.hid (hQ0.out true b' f' b' f' hlo rfl)
   clear hQ0 hlo
   rcases hf with rfl|rfl|rfl
   ·
    go_upto_region 8 with fail
    go_region_held3 (fun w'=>w'.cell? ⟨b9,10,none⟩=some (.int .i64 tr))
     (refine cells12t (x0:=L64 0) (x1:= .int .u8 0) (x2:= .int .i64 0) (x3:= .bool n1) (x4:= .slice a1 (digs BB m1).length k1) (x5:= .int .i64 e1) (x6:= .bool n2) (x7:= .slice a2 (digs BB m2).length k2) (x8:= .int .i64 e2) (x9:= .int .i64 nb) (x11:= .int .i64 2) ?_<;>(repeat' (first|with_reducible assumption|with_reducible exact blk_new|with_reducible exact blk_a2|with_reducible exact Below.refl _ _|with_reducible refine Blk.set3z ?_ _ _ _|with_reducible refine Blk.other3 ?_ ?_ _ _ _|with_reducible refine Blk.next ?_|with_reducible refine Blk.dr ?_|with_reducible refine bel_dr ?_|with_reducible refine bel_set3 ?_ ?_ _ _ _|with_reducible refine bel_next ?_|with_reducible refine RdD.set3z ?_ ?_ _ _ _|with_reducible refine RdN.set3z ?_ ?_ _ _ _|with_reducible refine RdD.below ?_ (below_alloc _ _)|with_reducible refine RdN.below ?_ (below_alloc _ _)|((try simp only[size_alloc,size_drew]);omega))))
     (first|fail)
    go_wp2_with fail
    obtain⟨z0,z1,z2,-⟩:=((Kd.below h8).set3 (L64 b') (.int .u8 1) (.int .i64 1)).dr.open3
    refine bodyPost_ret (v:= .tuple #[.agg #[L64 b',.int .u8 1,.int .i64 1],.int .i64 tr,.int .i64 0]) (by simp[results,Tryz.results30,go_sem,z0,z1,z2]) rfl ⟨l,_,_,_,_,rfl,hPl.out,hQ.out,below_drewN (below_set3b (Ba.trans (h8.mono Ba.size)) hwC _ _ _) 1⟩
   ·
    go_upto_region 8 with fail
    go_region_held3 (fun w'=>w'.cell? ⟨b9,10,none⟩=some (.int .i64 tr))
     (refine cells12t (x0:=L64 0) (x1:= .int .u8 0) (x2:= .int .i64 0) (x3:= .bool n1) (x4:= .slice a1 (digs BB m1).length k1) (x5:= .int .i64 e1) (x6:= .bool n2) (x7:= .slice a2 (digs BB m2).length k2) (x8:= .int .i64 e2) (x9:= .int .i64 nb) (x11:= .int .i64 2) ?_<;>(repeat' (first|with_reducible assumption|with_reducible exact blk_new|with_reducible exact blk_a2|with_reducible exact Below.refl _ _|with_reducible refine Blk.set3z ?_ _ _ _|with_reducible refine Blk.other3 ?_ ?_ _ _ _|with_reducible refine Blk.next ?_|with_reducible refine Blk.dr ?_|with_reducible refine bel_dr ?_|with_reducible refine bel_set3 ?_ ?_ _ _ _|with_reducible refine bel_next ?_|with_reducible refine RdD.set3z ?_ ?_ _ _ _|with_reducible refine RdN.set3z ?_ ?_ _ _ _|with_reducible refine RdD.below ?_ (below_alloc _ _)|with_reducible refine RdN.below ?_ (below_alloc _ _)|((try simp only[size_alloc,size_drew]);omega))))
     (first|fail)
    go_wp2_with fail
    obtain⟨z0,z1,z2,-⟩:=((Kd.below h8).set3 (L64 b') (.int .u8 3) (.int .i64 1)).dr.open3
    refine bodyPost_ret (v:= .tuple #[.agg #[L64 b',.int .u8 3,.int .i64 1],.int .i64 tr,.int .i64 0]) (by simp[results,Tryz.results30,go_sem,z0,z1,z2]) rfl ⟨l,_,_,_,_,rfl,hPl.out,hQ.out,below_drewN (below_set3b (Ba.trans (h8.mono Ba.size)) hwC _ _ _) 1⟩
   ·
    go_upto_region 8 with fail
    go_region_held3 (fun w'=>w'.cell? ⟨b9,10,none⟩=some (.int .i64 tr))
     (refine cells12t (x0:=L64 0) (x1:= .int .u8 0) (x2:= .int .i64 0) (x3:= .bool n1) (x4:= .slice a1 (digs BB m1).length k1) (x5:= .int .i64 e1) (x6:= .bool n2) (x7:= .slice a2 (digs BB m2).length k2) (x8:= .int .i64 e2) (x9:= .int .i64 nb) (x11:= .int .i64 2) ?_<;>(repeat' (first|with_reducible assumption|with_reducible exact blk_new|with_reducible exact blk_a2|with_reducible exact Below.refl _ _|with_reducible refine Blk.set3z ?_ _ _ _|with_reducible refine Blk.other3 ?_ ?_ _ _ _|with_reducible refine Blk.next ?_|with_reducible refine Blk.dr ?_|with_reducible refine bel_dr ?_|with_reducible refine bel_set3 ?_ ?_ _ _ _|with_reducible refine bel_next ?_|with_reducible refine RdD.set3z ?_ ?_ _ _ _|with_reducible refine RdN.set3z ?_ ?_ _ _ _|with_reducible refine RdD.below ?_ (below_alloc _ _)|with_reducible refine RdN.below ?_ (below_alloc _ _)|((try simp only[size_alloc,size_drew]);omega))))
     (first|fail)
    go_wp2_with fail
    obtain⟨z0,z1,z2,-⟩:=((Kd.below h8).set3 (L64 b') (.int .u8 5) (.int .i64 1)).dr.open3
    refine bodyPost_ret (v:= .tuple #[.agg #[L64 b',.int .u8 5,.int .i64 1],.int .i64 tr,.int .i64 0]) (by simp[results,Tryz.results30,go_sem,z0,z1,z2]) rfl ⟨l,_,_,_,_,rfl,hPl.out,hQ.out,below_drewN (below_set3b (Ba.trans (h8.mono Ba.size)) hwC _ _ _) 1⟩
  ·have hQ:=Lib.hid (hQ0.out false 0 0 9221120237041090560 1 hlo rfl)
   clear hQ0 hlo
   go_upto_region 8 with fail
   go_region_held3 (fun w'=>w'.cell? ⟨b9,10,none⟩=some (.int .i64 tr))
    (refine cells12t (x0:=L64 0) (x1:= .int .u8 0) (x2:= .int .i64 0) (x3:= .bool n1) (x4:= .slice a1 (digs BB m1).length k1) (x5:= .int .i64 e1) (x6:= .bool n2) (x7:= .slice a2 (digs BB m2).length k2) (x8:= .int .i64 e2) (x9:= .int .i64 nb) (x11:= .int .i64 2) ?_<;>(repeat' (first|with_reducible assumption|with_reducible exact blk_new|with_reducible exact blk_a2|with_reducible exact Below.refl _ _|with_reducible refine Blk.set3z ?_ _ _ _|with_reducible refine Blk.other3 ?_ ?_ _ _ _|with_reducible refine Blk.next ?_|with_reducible refine Blk.dr ?_|with_reducible refine bel_dr ?_|with_reducible refine bel_set3 ?_ ?_ _ _ _|with_reducible refine bel_next ?_|with_reducible refine RdD.set3z ?_ ?_ _ _ _|with_reducible refine RdN.set3z ?_ ?_ _ _ _|with_reducible refine RdD.below ?_ (below_alloc _ _)|with_reducible refine RdN.below ?_ (below_alloc _ _)|((try simp only[size_alloc,size_drew]);omega))))
    (first|fail)
   go_wp2_with fail
   obtain⟨z0,z1,z2,-⟩:=((Kd.below h8).set3 (.int .u64 9221120237041090560) (.int .u8 1) (.int .i64 1)).dr.open3
   refine bodyPost_ret (v:= .tuple #[.agg #[.int .u64 9221120237041090560,.int .u8 1,.int .i64 1],.int .i64 tr,.int .i64 0]) (by simp[results,Tryz.results30,go_sem,z0,z1,z2]) rfl ⟨l,_,_,_,_,rfl,hPl.out,hQ.out,below_drewN (below_set3b (Ba.trans (h8.mono Ba.size)) hwC _ _ _) 1⟩
open Go.RowKit
def hb (h:Bool):Nat:=if h then 1 else 0
theorem parts_val {M q:Nat}{E u:Int}{h b:Bool}(hp:partsP M E u=(q,h,b)):
 ((2*q+hb h:Nat):Rat)≤(M:Rat)*pw E*pw (1-u)∧(M:Rat)*pw E*pw (1-u)<((2*q+hb h:Nat):Rat)+1∧(b=false→(M:Rat)*pw E*pw (1-u)=((2*q+hb h:Nat):Rat))∧(b=true→((2*q+hb h:Nat):Rat)<(M:Rat)*pw E*pw (1-u)):=by
 rw[Rat.mul_assoc,←pw_add]
 unfold partsP at hp
 by_cases hle:u≤E
 ·rw[if_pos hle]at hp
  injection hp with z1 z2;injection z2 with z2 z3
  subst z2 z3
  have e1:E+(1-u)=(((E-u).toNat+1:Nat):Int):=by omega
  have e2:(M:Rat)*pw (E+(1-u))=((2*q+hb false:Nat):Rat):=by
   rw[e1,pw_nat,←z1,←Rat.natCast_mul]
   congr 1
   rw[Nat.pow_succ,show hb false=0 from rfl]
   generalize 2^(E-u).toNat=p
   rw[←Nat.mul_assoc];omega
  rw[e2]
  exact⟨Rat.le_refl,by grind,fun _=>rfl,fun h=>by cases h⟩
 ·rw[if_neg hle]at hp
  injection hp with z1 z2;injection z2 with z2 z3
  obtain⟨s,hs⟩:∃s:Nat,(u-E).toNat=s+1:=⟨(u-E).toNat-1,by omega⟩
  rw[hs,show s+1-1=s from rfl]at z2 z3
  rw[hs,Nat.pow_succ,←Nat.div_div_eq_div_mul]at z1
  have hT:2*q+hb h=M/2^s:=by
   rw[←z1,←z2]
   unfold hb
   have:=Nat.mod_two_eq_zero_or_one (M/2^s)
   generalize M/2^s=y at*
   by_cases hy:y%2=1
   ·rw[decide_eq_true hy,if_pos rfl];omega
   ·rw[decide_eq_false hy,if_neg (by decide)];omega
  have e1:E+(1-u)= -(s:Int):=by omega
  have hp2:=Nat.two_pow_pos s
  have hpw:=pw_pos (-(s:Int))
  have hu:pw (-(s:Int))*((2^s:Nat):Rat)=1:=by rw[←pw_nat];exact pw_neg (s:Int)
  have hM:=Nat.div_add_mod M (2^s)
  have hr:=Nat.mod_lt M hp2
  have hMq:(M:Rat)*pw (-(s:Int))=((M/2^s:Nat):Rat)+((M%2^s:Nat):Rat)*pw (-(s:Int)):=by
   have:(M:Rat)=((2^s:Nat):Rat)*((M/2^s:Nat):Rat)+((M%2^s:Nat):Rat):=by
    rw[←Rat.natCast_mul,←Rat.natCast_add,hM]
   conv=>lhs;rw[this]
   grind
  rw[e1,hMq,hT]
  have hrq:((M%2^s:Nat):Rat)*pw (-(s:Int))<1:=by
   have:=Rat.mul_lt_mul_of_pos_right (Rat.natCast_lt_natCast.2 hr) hpw
   rw[Rat.mul_comm ((2^s:Nat):Rat),hu]at this
   exact this
  have hr0:0≤((M%2^s:Nat):Rat)*pw (-(s:Int)):=Rat.mul_nonneg Rat.natCast_nonneg (Rat.le_of_lt hpw)
  refine⟨by grind,by grind,fun hb0=>?_,fun hb1=>?_⟩
  ·have h0:M%2^s=0:=by
    rw[hb0]at z3
    have:=of_decide_eq_false z3
    omega
   rw[h0]
   have:((0:Nat):Rat)*pw (-(s:Int))=0:=Rat.zero_mul _
   grind
  ·have h1:0<M%2^s:=by
    rw[hb1]at z3
    have:=of_decide_eq_true z3
    omega
   have:0<((M%2^s:Nat):Rat)*pw (-(s:Int)):=Rat.mul_pos (Rat.natCast_pos.2 h1) hpw
   grind
theorem top_ge {n:Bool}{M:Nat}{E t:Int}(h:pw t≤(M:Rat)*pw E):t≤topD ⟨n,M,E⟩∧M≠0:=by
 have h0:M≠0:=by
  intro h'
  rw[h']at h
  have:=pw_pos t
  have:((0:Nat):Rat)*pw E=0:=Rat.zero_mul _
  grind
 have a2:(M:Rat)<((2^bitN M:Nat):Rat):=Rat.natCast_lt_natCast.2 (bitN_lt M)
 have b2:=Rat.mul_lt_mul_of_pos_right a2 (pw_pos E)
 rw[←pw_nat,←pw_add]at b2
 refine⟨?_,h0⟩
 unfold topD
 dsimp only
 rcases Int.lt_or_le ((bitN M:Int)-1+E) t with c|c
 ·have:=pw_mono (show((bitN M:Nat):Int)+E≤t by omega)
  exfalso;grind
 ·exact c
theorem top_lt {n:Bool}{M:Nat}{E t:Int}(h0:M≠0) (h:(M:Rat)*pw E<pw t):topD ⟨n,M,E⟩<t:=by
 have a1:((2^(bitN M-1):Nat):Rat)≤(M:Rat):=Rat.natCast_le_natCast.2 (lt_bitN.1 (by have:=bitN_pos h0;omega))
 have b1:=Rat.mul_le_mul_of_nonneg_right a1 (Rat.le_of_lt (pw_pos E))
 rw[←pw_nat,←pw_add]at b1
 have hb:=bitN_pos h0
 unfold topD
 dsimp only
 rcases Int.lt_or_le ((bitN M:Int)-1+E) t with c|c
 ·exact c
 ·have:=pw_mono (show t≤((bitN M-1:Nat):Int)+E by omega)
  exfalso;grind
theorem top_val {n:Bool}{M:Nat}{E t:Int}(h1:pw t≤(M:Rat)*pw E) (h2:(M:Rat)*pw E<pw (t+1)):topD ⟨n,M,E⟩=t:=by
 have h0:M≠0:=by
  intro h
  rw[h]at h1
  have:=pw_pos t
  have:((0:Nat):Rat)*pw E=0:=Rat.zero_mul _
  grind
 have a1:((2^(bitN M-1):Nat):Rat)≤(M:Rat):=Rat.natCast_le_natCast.2 (lt_bitN.1 (by have:=bitN_pos h0;omega))
 have a2:(M:Rat)<((2^bitN M:Nat):Rat):=Rat.natCast_lt_natCast.2 (bitN_lt M)
 have hp:=pw_pos E
 have b1:=Rat.mul_le_mul_of_nonneg_right a1 (Rat.le_of_lt hp)
 have b2:=Rat.mul_lt_mul_of_pos_right a2 hp
 rw[←pw_nat,←pw_add]at b1 b2
 have hb:=bitN_pos h0
 unfold topD
 dsimp only
 have c1:¬((bitN M:Int)-1+E+1≤t):=fun h=>by
  have:=pw_mono (show((bitN M:Nat):Int)+E≤t by omega)
  grind
 have c2:¬(t+1≤(bitN M:Int)-1+E):=fun h=>by
  have:=pw_mono (show t+1≤((bitN M-1:Nat):Int)+E by omega)
  grind
 omega
theorem bare710:bareD ⟨false,710,0⟩=⟨false,355,1⟩:=rfl
theorem bare355:bareD ⟨false,355,1⟩=⟨false,355,1⟩:=rfl
theorem of710 {w:World}(hT:Tab w):Calls Tryz.prog 51 #[.int .i64 710] w (fun e w'=>∃v,e= .returned (.agg #[.bool false,v,.int .i64 1])∧RdN w' v (digs BB 355)∧Below w.heap.size w w'):=by
 have h:=Of_n (w:=w) (n:=710) (by decide) hT bare710
 refine Calls.mono h ?_
 rintro e w' ⟨v,rfl,⟨u,rfl,hu⟩,hb⟩
 exact⟨u,rfl,hu,hb⟩
end Go.Proofs.YtffaefjkpipjnaaGreatDoor

namespace Go.Proofs.YtffaefjkpipjnaaGreatDoor
set_option maxRecDepth 100000
open Go.RowKit Go.ChangeShapes Go.WideShapes
theorem bare746:bareD ⟨true,746,0⟩=⟨true,373,1⟩:=rfl
theorem rd_lit746 {w:World}{o:Obj}{T:TypeId}{fz:Nat×Nat}:RdN ((w.alloc o).alloc (.cells #[.int .u64 746] T fz)) (.slice (some ⟨w.heap.size+1,0,none⟩) 1 1) [746]:=rd_lit2 (n:=746)
theorem of746 {w:World}(hT:Tab w):Calls Tryz.prog 51 #[.int .i64 (-746)] w (fun e w'=>∃v,e= .returned (.agg #[.bool true,v,.int .i64 1])∧RdN w' v (digs BB 373)∧Below w.heap.size w w'):=by
 have hX:=Lib.hid (fun w v (h:RdN w v [746]) (hT:Tab w)=>bare_d (neg:=true) (E:=0) (h.num1 (by decide)) hT (by decide) (by decide) bare746)
 have hw:IntKind.u64.wrap (-IntKind.u64.wrap (-746))=746:=by rw[IntKind.wrap_u64,IntKind.wrap_u64];decide
 go_enter Tryz.func51,Tryz.ntmps51
 go_wp2_with
  (first
    |(go_at_call 80;(with_reducible refine(hX.out _ _ (rd_lit746) (hT.below below_2)).mono ?_);rintro e w1 ⟨vd1,rfl,d1,hb1⟩;have B1:=below_2.trans (hb1.mono below_2.size);have m1:=((rd_lit746)).below hb1;have T1:=((hT.below below_2)).below hb1;have R1:=((blk_a1)).below hb1;obtain⟨cR0_1,cR1_1,cR2_1,fR0_1,fR1_1,fR2_1,sR_1⟩:=R1.open3;obtain⟨ud1,rfl,d1⟩:=d1;obtain⟨ad1,kd1,rfl,-⟩:=d1.view)
    |fail)
 obtain⟨q0,q1,q2,-⟩:=(R1.set3 (.bool true) (.slice ad1 (digs BB 373).length kd1) (.int .i64 1)).open3
 refine bodyPost_ret (v:= .agg #[.bool true,.slice ad1 (digs BB 373).length kd1,.int .i64 1]) ?_ rfl ?_
 ·simp[results,Tryz.results51,go_sem,q0,q1,q2]
 ·exact⟨_,rfl,d1.set3 R1 dcells _ _ _,below_set3 B1 (Nat.le_refl _) _ _ _⟩
set_option maxHeartbeats 1000000 in
theorem Minus_ok {w:World}{v:Value}{neg n':Bool}{M M':Nat}{E E':Int}(h:Num w v M) (hT:Tab w) (h1: -9223372036854775808≤E) (h2:E≤9223372036854775807) (e:bareD ⟨neg,M,E⟩=⟨n',M',E'⟩) (hf:fitsE E'=true) (o:M'%2=1) (sM:bitN M'≤2560000):
 Calls Tryz.prog 52 #[.agg #[.bool neg,v,.int .i64 E]] w (fun e w'=>∃v,e= .returned (.agg #[.bool (!n'),v,.int .i64 E'])∧RdN w' v (digs BB M')∧Below w.heap.size w w'):=by
 obtain⟨a,n,k,rfl⟩:=h.slice
 have rF: -1073741824≤E'∧E'≤1073741824:=by unfold fitsE at hf;simp at hf;exact hf
 have h0:M'≠0:=by omega
 have hsn:digs BB M'≠[]:=fun e=>h0 ((digs_nil_iff BB_two _).1 e)
 have hsi:((digs BB M').length:Int)≠0:=by have:=List.length_pos_iff.2 hsn;omega
 have HB:=Lib.hid (fun w v (h:Num w v M) (hT:Tab w)=>bare_d h hT h1 h2 e)
 have BA:=Lib.hid (fun w v (h:RdN w v (digs BB M')) (hT:Tab w)=>Bare_ok (h.num sM) hT (by omega) (by omega) (bareD_odd' (neg:=!n') (E:=E') o (by omega) (by omega)) hf)
 clear e hf rF o sM hsn h0
 go_enter Tryz.func52,Tryz.ntmps52
 go_wp2_with
  (first
    |(go_at_call 80;(with_reducible refine(HB.out _ _ (h.below below_2) (hT.below below_2)).mono ?_);rintro e w1 ⟨vx1,rfl,x1,hb1⟩;have B1:=below_2.trans (hb1.mono below_2.size);have m1:=((h.below below_2)).below hb1;have T1:=((hT.below below_2)).below hb1;have P1:=((blk_a1)).below hb1;have R1:=((blk_a2)).below hb1;obtain⟨cP0_1,cP1_1,cP2_1,fP0_1,fP1_1,fP2_1,sP_1⟩:=P1.open3;obtain⟨cR0_1,cR1_1,cR2_1,fR0_1,fR1_1,fR2_1,sR_1⟩:=R1.open3;obtain⟨ux1,rfl,x1⟩:=x1;obtain⟨ax1,kx1,rfl,-⟩:=x1.view)
    |(go_at_call 74;(with_reducible refine(BA.out _ _ (x1.below (below_alloc _ _)) (T1.below (below_alloc _ _))).mono ?_);rintro e w2 ⟨vy2,rfl,y2,hb2⟩;have hb2':=(below_a hb2);have B2:=B1.trans (hb2'.mono B1.size);have m2:=m1.below hb2';have T2:=T1.below hb2';have P2:=P1.below hb2';have R2:=R1.below hb2';have x2:=x1.below hb2';clear m1 T1 P1 R1 x1;have Q2:=blk_new.below hb2;clear cP0_1 cP1_1 cP2_1 fP0_1 fP1_1 fP2_1 sP_1;obtain⟨cP0_2,cP1_2,cP2_2,fP0_2,fP1_2,fP2_2,sP_2⟩:=P2.open3;clear cR0_1 cR1_1 cR2_1 fR0_1 fR1_1 fR2_1 sR_1;obtain⟨cR0_2,cR1_2,cR2_2,fR0_2,fR1_2,fR2_2,sR_2⟩:=R2.open3;obtain⟨cQ0_2,cQ1_2,cQ2_2,fQ0_2,fQ1_2,fQ2_2,sQ_2⟩:=Q2.open3;obtain⟨ay2,ky2,rfl,-⟩:=y2.view;try simp only[List.length_nil]at y2)
    |fail)
 refine bodyPost_ret (v:= .agg #[.bool (!n'),.slice ax1 (digs BB M').length kx1,.int .i64 E']) ?_ rfl ?_
 ·have q:=(Blk.next (o:= .cells #[.bool (!n'),.slice ay2 (digs BB M').length ky2,.int .i64 E'] 63 (0,0)) (R2.set3 (.bool (!n')) (.slice ax1 (digs BB M').length kx1) (.int .i64 E'))).open3
  simp[results,Tryz.results52,go_sem,q.1,q.2.1,q.2.2.1]
 ·exact⟨_,rfl,(x2.set3 R2 dcells _ _ _).below (below_alloc _ _),bel_next (below_set3b B2 (by omega) _ _ _)⟩
end Go.Proofs.YtffaefjkpipjnaaGreatDoor
namespace Go.Proofs.YtffaefjkpipjnaaGreatDoor
set_option maxRecDepth 100000
open Go.RowKit Go.ChangeShapes Go.WideShapes
theorem litn {w:World}{T:TypeId}{o o':Obj}:Num (((w.alloc o).alloc (.cells #[.int .u64 1] T (0,0))).alloc o') (.slice (some ⟨w.heap.size+1,0,none⟩) 1 1) 1:=by
 have h:RdN ((w.alloc o).alloc (.cells #[.int .u64 ((1:Nat):Int)] T (0,0))) (.slice (some ⟨w.heap.size+1,0,none⟩) 1 1) [1]:=rd_one (heap_new2 _ _ _) trivial
 exact(RdN.num1 h (by decide)).below (below_alloc _ _)
def ofB (s:Int) (rt:Bool) (ca cb cn co:Int):Int:=
 if s=0∨rt=false then 0 else if 0≤ca then 1 else if cb≤0 then 2 else if s=1∧cn<0 then 3 else if s= -1∧0<co then 4 else 0
theorem b355:bitN 355≤400000:=Nat.le_trans (bitN_le.2 (show 355<2^9 by decide)) (by decide)
theorem b373:bitN 373≤400000:=Nat.le_trans (bitN_le.2 (show 373<2^9 by decide)) (by decide)
theorem bare373:bareD ⟨true,373,1⟩=⟨true,373,1⟩:=rfl
theorem bareN:bareD ⟨false,1,-60⟩=⟨false,1,-60⟩:=rfl
theorem bareO:bareD ⟨true,1,-60⟩=⟨true,1,-60⟩:=rfl
set_option maxHeartbeats 4000000 in
theorem bOf_n {w:World}{v u:Value}{neg neg2 f1 f2:Bool}{M M2:Nat}{E E2 c ca cb cn co s k:Int}(h:Num w v M) (h':Num w u M2) (hT:Tab w) (h1: -9223372036854775808≤E) (h2:E≤9223372036854775807) (h3: -9223372036854775808≤E2) (h4:E2≤9223372036854775807)
 (sM:bitN M≤400000) (sM2:bitN M2≤400000) (hf1:fitsE (bareD ⟨neg,M,E⟩).e=f1) (hf2:fitsE (bareD ⟨neg2,M2,E2⟩).e=f2) (hc:cmpD (bareD ⟨neg,M,E⟩) (bareD ⟨neg2,M2,E2⟩)=c)
 (hca:cmpD (bareD ⟨neg,M,E⟩) ⟨false,355,1⟩=ca) (hcb:cmpD (bareD ⟨neg2,M2,E2⟩) ⟨true,373,1⟩=cb) (hcn:cmpD (bareD ⟨neg2,M2,E2⟩) ⟨false,1,-60⟩=cn) (hco:cmpD (bareD ⟨neg,M,E⟩) ⟨true,1,-60⟩=co) (hk:ofB s (f1&&f2&&decide (c≤0)) ca cb cn co=k):
 Calls Tryz.prog 27 #[.agg #[.bool neg,v,.int .i64 E,.bool neg2,u,.int .i64 E2],.int .i64 s] w (fun e w'=>e= .returned (.int .i64 k)∧Below w.heap.size w w'):=by
 obtain⟨av,nv,kv,rfl⟩:=h.slice
 obtain⟨au,nu,ku,rfl⟩:=h'.slice
 have RT:=Lib.hid (fun w v u (h:Num w v M) (k:Num w u M2) (hT:Tab w)=>Right_n h k hT h1 h2 h3 h4 sM sM2 hf1 hf2 hc)
 have CA:=Lib.hid (fun w v u (h:Num w v M) (k:RdN w u (digs BB 355)) (hT:Tab w)=>Cmp_n h (k.num (Nat.le_trans b355 (by decide))) hT h1 h2 (by decide) (by decide) rfl bare355 sM b355 hca)
 have CB:=Lib.hid (fun w v u (h:Num w v M2) (k:RdN w u (digs BB 373)) (hT:Tab w)=>Cmp_n h (k.num (Nat.le_trans b373 (by decide))) hT h3 h4 (by decide) (by decide) rfl bare373 sM2 b373 hcb)
 have CN:=Lib.hid (fun w v u (h:Num w v M2) (k:Num w u 1) (hT:Tab w)=>Cmp_n h k hT h3 h4 (by decide) (by decide) rfl bareN sM2 (by rw[bitN_one];decide) hcn)
 have CO:=Lib.hid (fun w v u (h:Num w v M) (k:RdN w u (digs BB 1)) (hT:Tab w)=>Cmp_n h (k.num (by rw[bitN_one];decide)) hT h1 h2 (by decide) (by decide) rfl bareO sM (by rw[bitN_one];decide) hco)
 have MN:=Lib.hid (fun w v (h:Num w v 1) (hT:Tab w)=>Minus_ok h hT (by decide) (by decide) bareN rfl rfl (by rw[bitN_one];decide))
 obtain⟨rt,hrt⟩:∃r,(f1&&f2&&decide (c≤0))=r:=⟨_,rfl⟩
 rw[hrt]at RT hk
 clear hf1 hf2 hc hca hcb hcn hco hrt
 unfold ofB at hk
 by_cases hs0:s=0
 ·rw[if_pos (.inl hs0)]at hk
  subst hk hs0
  go_enter Tryz.func27,Tryz.ntmps27
  go_wp2
  all_goals
   go_ret
   exact⟨rfl,below3⟩
 have ds:(s==0)=false:=beq_false_of_ne hs0
 cases rt
 ·rw[if_pos (.inr rfl)]at hk
  subst hk
  clear hs0
  go_enter Tryz.func27,Tryz.ntmps27
  go_wp2_with
   (first
     |(go_at_call 49;(with_reducible refine(RT.out _ _ _ (h.below below3) (h'.below below3) (hT.below below3)).mono ?_);rintro e w1 ⟨rfl,hb1⟩;have B1:=below3.trans (hb1.mono below3.size);have m1:=((h.below below3)).below hb1;have g1:=((h'.below below3)).below hb1;have l1:=((litn)).below hb1;have T1:=((hT.below below3)).below hb1;have P1:=((blk3a)).below hb1;have Q1:=((blk3c)).below hb1;obtain⟨cP0_1,cP1_1,cP2_1,cP3_1,cP4_1,cP5_1,fP0_1,fP1_1,fP2_1,fP3_1,fP4_1,fP5_1,sP_1⟩:=P1.open6;obtain⟨cQ0_1,cQ1_1,cQ2_1,fQ0_1,fQ1_1,fQ2_1,sQ_1⟩:=Q1.open3)
     |fail)
  all_goals
   go_ret
   exact⟨rfl,by assumption⟩
 rw[if_neg (by simp[hs0])]at hk
 clear hs0
 go_enter Tryz.func27,Tryz.ntmps27
 go_upto_region 4 with
  (first
    |(go_at_call 49;(with_reducible refine(RT.out _ _ _ (h.below below3) (h'.below below3) (hT.below below3)).mono ?_);rintro e w1 ⟨rfl,hb1⟩;have B1:=below3.trans (hb1.mono below3.size);have m1:=((h.below below3)).below hb1;have g1:=((h'.below below3)).below hb1;have l1:=((litn)).below hb1;have T1:=((hT.below below3)).below hb1;have P1:=((blk3a)).below hb1;have Q1:=((blk3c)).below hb1;obtain⟨cP0_1,cP1_1,cP2_1,cP3_1,cP4_1,cP5_1,fP0_1,fP1_1,fP2_1,fP3_1,fP4_1,fP5_1,sP_1⟩:=P1.open6;obtain⟨cQ0_1,cQ1_1,cQ2_1,fQ0_1,fQ1_1,fQ2_1,sQ_1⟩:=Q1.open3)
    |fail)
 have hAD5:Below w1.heap.size w1 w1.drew:=below_drewN (Below.refl _ _) 1
 have m5:=m1.below hAD5;have g5:=g1.below hAD5;have l5:=l1.below hAD5;have T5:=T1.below hAD5;have P5:=P1.below hAD5;have Q5:=Q1.below hAD5
 have B5:=B1.trans (hAD5.mono B1.size)
 obtain⟨cP0_5,cP1_5,cP2_5,cP3_5,cP4_5,cP5_5,fP0_5,fP1_5,fP2_5,fP3_5,fP4_5,fP5_5,sP_5⟩:=P5.open6
 obtain⟨cQ0_5,cQ1_5,cQ2_5,fQ0_5,fQ1_5,fQ2_5,sQ_5⟩:=Q5.open3
 by_cases ha:0≤ca
 ·rw[if_pos ha]at hk
  subst hk
  have dc:decide (0≤ca)=true:=decide_eq_true ha
  clear ha
  go_region_held3 (fun w'=>w'.cell? ⟨w.heap.size,0,none⟩=some (.bool neg)∧w'.cell? ⟨w.heap.size,1,none⟩=some (.slice av nv kv)∧w'.cell? ⟨w.heap.size,2,none⟩=some (.int .i64 E)) (first|with_reducible exact⟨cP0_5,cP1_5,cP2_5⟩|with_reducible exact⟨cP0_6,cP1_6,cP2_6⟩|with_reducible exact⟨cP0_7,cP1_7,cP2_7⟩)
  (first
    |(go_at_call 51;(with_reducible refine(of710 T5).mono ?_);rintro e w6 ⟨vy6,rfl,y6,hb6⟩;have B6:=B5.trans (hb6.mono B5.size);have m6:=m5.below hb6;have g6:=g5.below hb6;have l6:=l5.below hb6;have T6:=T5.below hb6;have P6:=P5.below hb6;have Q6:=Q5.below hb6;clear m5 g5 l5 T5 P5 Q5;obtain⟨cP0_6,cP1_6,cP2_6,cP3_6,cP4_6,cP5_6,fP0_6,fP1_6,fP2_6,fP3_6,fP4_6,fP5_6,sP_6⟩:=P6.open6;obtain⟨cQ0_6,cQ1_6,cQ2_6,fQ0_6,fQ1_6,fQ2_6,sQ_6⟩:=Q6.open3;obtain⟨ay6,ky6,rfl,-⟩:=y6.view;try simp only[List.length_nil]at y6)
    |(go_at_call 50;(with_reducible refine(CA.out _ _ _ m6 y6 T6).mono ?_);rintro e w7 ⟨rfl,hb7⟩;have B7:=B6.trans (hb7.mono B6.size);have m7:=m6.below hb7;have g7:=g6.below hb7;have l7:=l6.below hb7;have T7:=T6.below hb7;have P7:=P6.below hb7;have Q7:=Q6.below hb7;have y7:=y6.below hb7;clear m6 g6 l6 T6 P6 Q6 y6;clear cP0_6 cP1_6 cP2_6 cP3_6 cP4_6 cP5_6 fP0_6 fP1_6 fP2_6 fP3_6 fP4_6 fP5_6 sP_6;obtain⟨cP0_7,cP1_7,cP2_7,cP3_7,cP4_7,cP5_7,fP0_7,fP1_7,fP2_7,fP3_7,fP4_7,fP5_7,sP_7⟩:=P7.open6;clear cQ0_6 cQ1_6 cQ2_6 fQ0_6 fQ1_6 fQ2_6 sQ_6;obtain⟨cQ0_7,cQ1_7,cQ2_7,fQ0_7,fQ1_7,fQ2_7,sQ_7⟩:=Q7.open3)
    |fail)
  all_goals
   go_wp2_with fail
   go_ret
   exact⟨rfl,by assumption⟩
 rw[if_neg ha]at hk
 have dc:decide (0≤ca)=false:=decide_eq_false ha
 clear ha
 go_region_held3 (fun w'=>w'.cell? ⟨w.heap.size,0,none⟩=some (.bool neg)∧w'.cell? ⟨w.heap.size,1,none⟩=some (.slice av nv kv)∧w'.cell? ⟨w.heap.size,2,none⟩=some (.int .i64 E)) (first|with_reducible exact⟨cP0_5,cP1_5,cP2_5⟩|with_reducible exact⟨cP0_6,cP1_6,cP2_6⟩|with_reducible exact⟨cP0_7,cP1_7,cP2_7⟩)
 (first
   |(go_at_call 51;(with_reducible refine(of710 T5).mono ?_);rintro e w6 ⟨vy6,rfl,y6,hb6⟩;have B6:=B5.trans (hb6.mono B5.size);have m6:=m5.below hb6;have g6:=g5.below hb6;have l6:=l5.below hb6;have T6:=T5.below hb6;have P6:=P5.below hb6;have Q6:=Q5.below hb6;clear m5 g5 l5 T5 P5 Q5;obtain⟨cP0_6,cP1_6,cP2_6,cP3_6,cP4_6,cP5_6,fP0_6,fP1_6,fP2_6,fP3_6,fP4_6,fP5_6,sP_6⟩:=P6.open6;obtain⟨cQ0_6,cQ1_6,cQ2_6,fQ0_6,fQ1_6,fQ2_6,sQ_6⟩:=Q6.open3;obtain⟨ay6,ky6,rfl,-⟩:=y6.view;try simp only[List.length_nil]at y6)
   |(go_at_call 50;(with_reducible refine(CA.out _ _ _ m6 y6 T6).mono ?_);rintro e w7 ⟨rfl,hb7⟩;have B7:=B6.trans (hb7.mono B6.size);have m7:=m6.below hb7;have g7:=g6.below hb7;have l7:=l6.below hb7;have T7:=T6.below hb7;have P7:=P6.below hb7;have Q7:=Q6.below hb7;have y7:=y6.below hb7;clear m6 g6 l6 T6 P6 Q6 y6;clear cP0_6 cP1_6 cP2_6 cP3_6 cP4_6 cP5_6 fP0_6 fP1_6 fP2_6 fP3_6 fP4_6 fP5_6 sP_6;obtain⟨cP0_7,cP1_7,cP2_7,cP3_7,cP4_7,cP5_7,fP0_7,fP1_7,fP2_7,fP3_7,fP4_7,fP5_7,sP_7⟩:=P7.open6;clear cQ0_6 cQ1_6 cQ2_6 fQ0_6 fQ1_6 fQ2_6 sQ_6;obtain⟨cQ0_7,cQ1_7,cQ2_7,fQ0_7,fQ1_7,fQ2_7,sQ_7⟩:=Q7.open3)
   |fail)
 go_upto_region 6 with fail
 have hAD10:Below w7.heap.size w7 w7.drew:=below_drewN (Below.refl _ _) 1
 have m10:=m7.below hAD10;have g10:=g7.below hAD10;have l10:=l7.below hAD10;have T10:=T7.below hAD10;have P10:=P7.below hAD10;have Q10:=Q7.below hAD10
 have B10:=B7.trans (hAD10.mono B7.size)
 obtain⟨cP0_10,cP1_10,cP2_10,cP3_10,cP4_10,cP5_10,fP0_10,fP1_10,fP2_10,fP3_10,fP4_10,fP5_10,sP_10⟩:=P10.open6
 obtain⟨cQ0_10,cQ1_10,cQ2_10,fQ0_10,fQ1_10,fQ2_10,sQ_10⟩:=Q10.open3
 by_cases hb:cb≤0
 ·rw[if_pos hb]at hk
  subst hk
  have db:decide (cb≤0)=true:=decide_eq_true hb
  clear hb
  go_region_held3 (fun w'=>w'.cell? ⟨w.heap.size,3,none⟩=some (.bool neg2)∧w'.cell? ⟨w.heap.size,4,none⟩=some (.slice au nu ku)∧w'.cell? ⟨w.heap.size,5,none⟩=some (.int .i64 E2)) (first|with_reducible exact⟨cP3_10,cP4_10,cP5_10⟩|with_reducible exact⟨cP3_11,cP4_11,cP5_11⟩|with_reducible exact⟨cP3_12,cP4_12,cP5_12⟩)
  (first
    |(go_at_call 51;(with_reducible refine(of746 T10).mono ?_);rintro e w11 ⟨vz11,rfl,z11,hb11⟩;have B11:=B10.trans (hb11.mono B10.size);have m11:=m10.below hb11;have g11:=g10.below hb11;have l11:=l10.below hb11;have T11:=T10.below hb11;have P11:=P10.below hb11;have Q11:=Q10.below hb11;clear m10 g10 l10 T10 P10 Q10;obtain⟨cP0_11,cP1_11,cP2_11,cP3_11,cP4_11,cP5_11,fP0_11,fP1_11,fP2_11,fP3_11,fP4_11,fP5_11,sP_11⟩:=P11.open6;obtain⟨cQ0_11,cQ1_11,cQ2_11,fQ0_11,fQ1_11,fQ2_11,sQ_11⟩:=Q11.open3;obtain⟨az11,kz11,rfl,-⟩:=z11.view;try simp only[List.length_nil]at z11)
    |(go_at_call 50;(with_reducible refine(CB.out _ _ _ g11 z11 T11).mono ?_);rintro e w12 ⟨rfl,hb12⟩;have B12:=B11.trans (hb12.mono B11.size);have m12:=m11.below hb12;have g12:=g11.below hb12;have l12:=l11.below hb12;have T12:=T11.below hb12;have P12:=P11.below hb12;have Q12:=Q11.below hb12;have z12:=z11.below hb12;clear m11 g11 l11 T11 P11 Q11 z11;clear cP0_11 cP1_11 cP2_11 cP3_11 cP4_11 cP5_11 fP0_11 fP1_11 fP2_11 fP3_11 fP4_11 fP5_11 sP_11;obtain⟨cP0_12,cP1_12,cP2_12,cP3_12,cP4_12,cP5_12,fP0_12,fP1_12,fP2_12,fP3_12,fP4_12,fP5_12,sP_12⟩:=P12.open6;clear cQ0_11 cQ1_11 cQ2_11 fQ0_11 fQ1_11 fQ2_11 sQ_11;obtain⟨cQ0_12,cQ1_12,cQ2_12,fQ0_12,fQ1_12,fQ2_12,sQ_12⟩:=Q12.open3)
    |fail)
  all_goals
   go_wp2_with fail
   go_ret
   exact⟨rfl,by assumption⟩
 rw[if_neg hb]at hk
 have db:decide (cb≤0)=false:=decide_eq_false hb
 clear hb
 go_region_held3 (fun w'=>w'.cell? ⟨w.heap.size,3,none⟩=some (.bool neg2)∧w'.cell? ⟨w.heap.size,4,none⟩=some (.slice au nu ku)∧w'.cell? ⟨w.heap.size,5,none⟩=some (.int .i64 E2)) (first|with_reducible exact⟨cP3_10,cP4_10,cP5_10⟩|with_reducible exact⟨cP3_11,cP4_11,cP5_11⟩|with_reducible exact⟨cP3_12,cP4_12,cP5_12⟩)
 (first
   |(go_at_call 51;(with_reducible refine(of746 T10).mono ?_);rintro e w11 ⟨vz11,rfl,z11,hb11⟩;have B11:=B10.trans (hb11.mono B10.size);have m11:=m10.below hb11;have g11:=g10.below hb11;have l11:=l10.below hb11;have T11:=T10.below hb11;have P11:=P10.below hb11;have Q11:=Q10.below hb11;clear m10 g10 l10 T10 P10 Q10;obtain⟨cP0_11,cP1_11,cP2_11,cP3_11,cP4_11,cP5_11,fP0_11,fP1_11,fP2_11,fP3_11,fP4_11,fP5_11,sP_11⟩:=P11.open6;obtain⟨cQ0_11,cQ1_11,cQ2_11,fQ0_11,fQ1_11,fQ2_11,sQ_11⟩:=Q11.open3;obtain⟨az11,kz11,rfl,-⟩:=z11.view;try simp only[List.length_nil]at z11)
   |(go_at_call 50;(with_reducible refine(CB.out _ _ _ g11 z11 T11).mono ?_);rintro e w12 ⟨rfl,hb12⟩;have B12:=B11.trans (hb12.mono B11.size);have m12:=m11.below hb12;have g12:=g11.below hb12;have l12:=l11.below hb12;have T12:=T11.below hb12;have P12:=P11.below hb12;have Q12:=Q11.below hb12;have z12:=z11.below hb12;clear m11 g11 l11 T11 P11 Q11 z11;clear cP0_11 cP1_11 cP2_11 cP3_11 cP4_11 cP5_11 fP0_11 fP1_11 fP2_11 fP3_11 fP4_11 fP5_11 sP_11;obtain⟨cP0_12,cP1_12,cP2_12,cP3_12,cP4_12,cP5_12,fP0_12,fP1_12,fP2_12,fP3_12,fP4_12,fP5_12,sP_12⟩:=P12.open6;clear cQ0_11 cQ1_11 cQ2_11 fQ0_11 fQ1_11 fQ2_11 sQ_11;obtain⟨cQ0_12,cQ1_12,cQ2_12,fQ0_12,fQ1_12,fQ2_12,sQ_12⟩:=Q12.open3)
   |fail)
 by_cases hs1:s=1
 ·subst hs1
  by_cases hn:cn<0
  ·rw[if_pos ⟨rfl,hn⟩]at hk
   subst hk
   have dn:decide (cn<0)=true:=decide_eq_true hn
   clear hn
   go_wp2_with
    (first
      |(go_at_call 50;(with_reducible refine(CN.out _ _ _ g12 l12 T12).mono ?_);rintro e w13 ⟨rfl,hb13⟩;have B13:=B12.trans (hb13.mono B12.size);have m13:=m12.below hb13;have g13:=g12.below hb13;have l13:=l12.below hb13;have T13:=T12.below hb13;have P13:=P12.below hb13;have Q13:=Q12.below hb13;clear m12 g12 l12 T12 P12 Q12;obtain⟨cP0_13,cP1_13,cP2_13,cP3_13,cP4_13,cP5_13,fP0_13,fP1_13,fP2_13,fP3_13,fP4_13,fP5_13,sP_13⟩:=P13.open6;obtain⟨cQ0_13,cQ1_13,cQ2_13,fQ0_13,fQ1_13,fQ2_13,sQ_13⟩:=Q13.open3)
      |fail)
   all_goals
    go_ret
    exact⟨rfl,by assumption⟩
  rw[if_neg (fun h=>hn h.2),if_neg (fun h=>absurd h.1 (by decide))]at hk
  subst hk
  have dn:decide (cn<0)=false:=decide_eq_false hn
  clear hn
  go_upto_region 10 with
   (first
     |(go_at_call 50;(with_reducible refine(CN.out _ _ _ g12 l12 T12).mono ?_);rintro e w13 ⟨rfl,hb13⟩;have B13:=B12.trans (hb13.mono B12.size);have m13:=m12.below hb13;have g13:=g12.below hb13;have l13:=l12.below hb13;have T13:=T12.below hb13;have P13:=P12.below hb13;have Q13:=Q12.below hb13;clear m12 g12 l12 T12 P12 Q12;obtain⟨cP0_13,cP1_13,cP2_13,cP3_13,cP4_13,cP5_13,fP0_13,fP1_13,fP2_13,fP3_13,fP4_13,fP5_13,sP_13⟩:=P13.open6;obtain⟨cQ0_13,cQ1_13,cQ2_13,fQ0_13,fQ1_13,fQ2_13,sQ_13⟩:=Q13.open3)
     |fail)
  go_quiet (fail)
  all_goals
   go_wp2_with fail
   go_ret
   exact⟨rfl,below_drewN (by assumption) _⟩
 have ds1:(s==1)=false:=beq_false_of_ne hs1
 rw[if_neg (fun h=>hs1 h.1)]at hk
 clear hs1
 go_upto_region 10 with fail
 by_cases hs2:s= -1
 ·subst hs2
  have hAD20:Below w12.heap.size w12 w12.drew:=below_drewN (Below.refl _ _) 1
  have m20:=m12.below hAD20;have g20:=g12.below hAD20;have l20:=l12.below hAD20;have T20:=T12.below hAD20;have P20:=P12.below hAD20;have Q20:=Q12.below hAD20
  have B20:=B12.trans (hAD20.mono B12.size)
  obtain⟨cP0_20,cP1_20,cP2_20,cP3_20,cP4_20,cP5_20,fP0_20,fP1_20,fP2_20,fP3_20,fP4_20,fP5_20,sP_20⟩:=P20.open6
  obtain⟨cQ0_20,cQ1_20,cQ2_20,fQ0_20,fQ1_20,fQ2_20,sQ_20⟩:=Q20.open3
  by_cases ho:0<co
  ·rw[if_pos ⟨rfl,ho⟩]at hk
   subst hk
   have do1:decide (0<co)=true:=decide_eq_true ho
   clear ho
   go_region_held3 (fun w'=>(w'.cell? ⟨w.heap.size,0,none⟩=some (.bool neg)∧w'.cell? ⟨w.heap.size,1,none⟩=some (.slice av nv kv)∧w'.cell? ⟨w.heap.size,2,none⟩=some (.int .i64 E))∧w'.cell? ⟨w.heap.size+1+1,0,none⟩=some (.bool false)∧w'.cell? ⟨w.heap.size+1+1,1,none⟩=some (.slice (some ⟨w.heap.size+1,0,none⟩) 1 1)∧w'.cell? ⟨w.heap.size+1+1,2,none⟩=some (.int .i64 (-60))) (first|with_reducible exact⟨⟨cP0_20,cP1_20,cP2_20⟩,cQ0_20,cQ1_20,cQ2_20⟩|with_reducible exact⟨⟨cP0_21,cP1_21,cP2_21⟩,cQ0_21,cQ1_21,cQ2_21⟩|with_reducible exact⟨⟨cP0_22,cP1_22,cP2_22⟩,cQ0_22,cQ1_22,cQ2_22⟩)
   (first
     |(go_at_call 52;(with_reducible refine(MN.out _ _ l20 T20).mono ?_);rintro e w21 ⟨vz21,rfl,z21,hb21⟩;have B21:=B20.trans (hb21.mono B20.size);have m21:=m20.below hb21;have g21:=g20.below hb21;have l21:=l20.below hb21;have T21:=T20.below hb21;have P21:=P20.below hb21;have Q21:=Q20.below hb21;clear m20 g20 l20 T20 P20 Q20;obtain⟨cP0_21,cP1_21,cP2_21,cP3_21,cP4_21,cP5_21,fP0_21,fP1_21,fP2_21,fP3_21,fP4_21,fP5_21,sP_21⟩:=P21.open6;obtain⟨cQ0_21,cQ1_21,cQ2_21,fQ0_21,fQ1_21,fQ2_21,sQ_21⟩:=Q21.open3;obtain⟨az21,kz21,rfl,-⟩:=z21.view;try simp only[List.length_nil]at z21)
     |(go_at_call 50;(with_reducible refine(CO.out _ _ _ m21 z21 T21).mono ?_);rintro e w22 ⟨rfl,hb22⟩;have B22:=B21.trans (hb22.mono B21.size);have m22:=m21.below hb22;have g22:=g21.below hb22;have l22:=l21.below hb22;have T22:=T21.below hb22;have P22:=P21.below hb22;have Q22:=Q21.below hb22;have z22:=z21.below hb22;clear m21 g21 l21 T21 P21 Q21 z21;clear cP0_21 cP1_21 cP2_21 cP3_21 cP4_21 cP5_21 fP0_21 fP1_21 fP2_21 fP3_21 fP4_21 fP5_21 sP_21;obtain⟨cP0_22,cP1_22,cP2_22,cP3_22,cP4_22,cP5_22,fP0_22,fP1_22,fP2_22,fP3_22,fP4_22,fP5_22,sP_22⟩:=P22.open6;clear cQ0_21 cQ1_21 cQ2_21 fQ0_21 fQ1_21 fQ2_21 sQ_21;obtain⟨cQ0_22,cQ1_22,cQ2_22,fQ0_22,fQ1_22,fQ2_22,sQ_22⟩:=Q22.open3)
     |fail)
   all_goals
    go_wp2_with fail
    go_ret
    exact⟨rfl,by assumption⟩
  ·rw[if_neg (fun h=>ho h.2)]at hk
   subst hk
   have do1:decide (0<co)=false:=decide_eq_false ho
   clear ho
   go_region_held3 (fun w'=>(w'.cell? ⟨w.heap.size,0,none⟩=some (.bool neg)∧w'.cell? ⟨w.heap.size,1,none⟩=some (.slice av nv kv)∧w'.cell? ⟨w.heap.size,2,none⟩=some (.int .i64 E))∧w'.cell? ⟨w.heap.size+1+1,0,none⟩=some (.bool false)∧w'.cell? ⟨w.heap.size+1+1,1,none⟩=some (.slice (some ⟨w.heap.size+1,0,none⟩) 1 1)∧w'.cell? ⟨w.heap.size+1+1,2,none⟩=some (.int .i64 (-60))) (first|with_reducible exact⟨⟨cP0_20,cP1_20,cP2_20⟩,cQ0_20,cQ1_20,cQ2_20⟩|with_reducible exact⟨⟨cP0_21,cP1_21,cP2_21⟩,cQ0_21,cQ1_21,cQ2_21⟩|with_reducible exact⟨⟨cP0_22,cP1_22,cP2_22⟩,cQ0_22,cQ1_22,cQ2_22⟩)
   (first
     |(go_at_call 52;(with_reducible refine(MN.out _ _ l20 T20).mono ?_);rintro e w21 ⟨vz21,rfl,z21,hb21⟩;have B21:=B20.trans (hb21.mono B20.size);have m21:=m20.below hb21;have g21:=g20.below hb21;have l21:=l20.below hb21;have T21:=T20.below hb21;have P21:=P20.below hb21;have Q21:=Q20.below hb21;clear m20 g20 l20 T20 P20 Q20;obtain⟨cP0_21,cP1_21,cP2_21,cP3_21,cP4_21,cP5_21,fP0_21,fP1_21,fP2_21,fP3_21,fP4_21,fP5_21,sP_21⟩:=P21.open6;obtain⟨cQ0_21,cQ1_21,cQ2_21,fQ0_21,fQ1_21,fQ2_21,sQ_21⟩:=Q21.open3;obtain⟨az21,kz21,rfl,-⟩:=z21.view;try simp only[List.length_nil]at z21)
     |(go_at_call 50;(with_reducible refine(CO.out _ _ _ m21 z21 T21).mono ?_);rintro e w22 ⟨rfl,hb22⟩;have B22:=B21.trans (hb22.mono B21.size);have m22:=m21.below hb22;have g22:=g21.below hb22;have l22:=l21.below hb22;have T22:=T21.below hb22;have P22:=P21.below hb22;have Q22:=Q21.below hb22;have z22:=z21.below hb22;clear m21 g21 l21 T21 P21 Q21 z21;clear cP0_21 cP1_21 cP2_21 cP3_21 cP4_21 cP5_21 fP0_21 fP1_21 fP2_21 fP3_21 fP4_21 fP5_21 sP_21;obtain⟨cP0_22,cP1_22,cP2_22,cP3_22,cP4_22,cP5_22,fP0_22,fP1_22,fP2_22,fP3_22,fP4_22,fP5_22,sP_22⟩:=P22.open6;clear cQ0_21 cQ1_21 cQ2_21 fQ0_21 fQ1_21 fQ2_21 sQ_21;obtain⟨cQ0_22,cQ1_22,cQ2_22,fQ0_22,fQ1_22,fQ2_22,sQ_22⟩:=Q22.open3)
     |fail)
   all_goals
    go_wp2_with fail
    go_ret
    exact⟨rfl,by assumption⟩
 rw[if_neg (fun h=>hs2 h.1)]at hk
 subst hk
 have ds2:(s== -1)=false:=beq_false_of_ne hs2
 go_quiet (fail)
 all_goals
  go_wp2_with fail
  go_ret
  exact⟨rfl,below_drewN (by assumption) _⟩
end Go.Proofs.YtffaefjkpipjnaaGreatDoor
namespace Go.Proofs.YtffaefjkpipjnaaGreatDoor
set_option maxRecDepth 100000
open Go.RowKit Go.ChangeShapes Go.WideShapes
end Go.Proofs.YtffaefjkpipjnaaGreatDoor
