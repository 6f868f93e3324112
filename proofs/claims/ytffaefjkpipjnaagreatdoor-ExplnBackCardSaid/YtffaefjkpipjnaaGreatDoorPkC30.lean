/- expln.Exp's closure by its contract. Conditions: the number may be split. -/
import Derived.Test.YtffaefjkpipjnaaGreatDoorPkC25
import Derived.Test.YtffaefjkpipjnaaGreatDoorPkC29
import Derived.Test.YtffaefjkpipjnaaGreatDoorPkC19
import Derived.Test.YtffaefjkpipjnaaGreatDoorPkC28
import Derived.Test.YtffaefjkpipjnaaGreatDoorPkC24
import Derived.Test.YtffaefjkpipjnaaGreatDoorPkC13
import Derived.Test.YtffaefjkpipjnaaGreatDoorPkC12
import Derived.Test.YtffaefjkpipjnaaGreatDoorPkC21
namespace Go.Proofs.YtffaefjkpipjnaaGreatDoor
set_option linter.unusedVariables false
set_option linter.unusedSimpArgs false
set_option maxRecDepth 100000
open Go.RowKit Go.ChangeShapes Go.WideShapes
set_option maxHeartbeats 600000 in
theorem exp1_n {w:World}{v:Value}{b n':Bool}{A M n g:Nat}{e0 E:Int}(h:RdN w v (digs BB A)) (hT:Tab w) (r1: -9223372036854775808≤e0) (r2:e0≤9223372036854775807) (q:bareD ⟨b,A,e0⟩=⟨n',M,E⟩) (gd:rightB M E=true) (sA:bitN A≤400000) (s2:n≤8192) (P:Blk w g #[.bool b,v,.int .i64 e0]):
 Calls Tryz.prog 31 #[.int .i64 (n:Int),.pointer (some ⟨g,0,none⟩)] w (fun e w'=>∃p1 k1 f1 p2 k2 f2 x y er,e= .returned (.tuple #[.agg #[.bool p1,x,.int .i64 f1,.bool p2,y,.int .i64 f2],.int .i64 er])∧
  ((er=0∧∃k,ExpT ⟨n',M,E⟩ ⟨p1,k1,f1⟩ ⟨p2,k2,f2⟩ (n+64) k)∨(er=1∧n+64<40))∧RdN w' x (digs BB k1)∧RdN w' y (digs BB k2)∧Below w.heap.size w w'):=by
 obtain⟨av,kv,rfl,-,-,-,-⟩:=h.view
 have HE:=Lib.hid (fun w v (h:RdN w v (digs BB A)) (hT:Tab w)=>Exp_t (s:=n+64) (h.num (by omega)) (h.num (by omega)) hT r1 r2 q gd sA (by omega) (by omega))
 rw[show(((n+64:Nat)):Int)=(n:Int)+64 from rfl]at HE
 have HA:=Lib.hid (fun w=>eat_n (w:=w) (n:=b) (a:=av) (l:=(digs BB A).length) (k:=kv) (e:=e0))
 have hw:IntKind.i64.wrap ((n:Int)+64)=((n+64:Nat):Int):=by rw[IntKind.wrap_i64];omega
 have P0:=P.below (below_alloc w (.cells #[.bool false,.slice none 0 0,.int .i64 0,.bool false,.slice none 0 0,.int .i64 0] 70 (0,0)))
 have R0:=blk_new (w:=w) (T:=70) (c:= #[.bool false,.slice none 0 0,.int .i64 0,.bool false,.slice none 0 0,.int .i64 0])
 have B0:=below_alloc w (.cells #[.bool false,.slice none 0 0,.int .i64 0,.bool false,.slice none 0 0,.int .i64 0] 70 (0,0))
 have hg:=P.1
 clear q gd
 go_enter Tryz.func31,Tryz.ntmps31
 go_upto_region 1 with fail
 obtain⟨cP0,cP1,cP2,fP0,fP1,fP2,sP⟩:=P0.open3
 go_wp2_with
  (first
    |(go_at_call 28;(with_reducible refine(HA.out _).mono ?_);rintro e w1 ⟨rfl,hb1⟩;have B1:=B0.trans (hb1.mono B0.size);have h1:=((h.below B0)).below hb1;have T1:=((hT.below B0)).below hb1;have R1:=R0.below hb1;clear R0;obtain⟨cR0_1,cR1_1,cR2_1,cR3_1,cR4_1,cR5_1,fR0_1,fR1_1,fR2_1,fR3_1,fR4_1,fR5_1,sR_1⟩:=R1.open6)
    |(go_at_call 32;(with_reducible refine(HE.out _ _ h1 T1).mono ?_);rintro e w2 ⟨p1,k1,f1,p2,k2,f2,xv,yv,er,rfl,hO,x2,y2,hb2⟩;have B2:=B1.trans (hb2.mono B1.size);have h2:=h1.below hb2;have T2:=T1.below hb2;have R2:=R1.below hb2;clear h1 T1 R1;clear cR0_1 cR1_1 cR2_1 cR3_1 cR4_1 cR5_1 fR0_1 fR1_1 fR2_1 fR3_1 fR4_1 fR5_1 sR_1;obtain⟨cR0_2,cR1_2,cR2_2,cR3_2,cR4_2,cR5_2,fR0_2,fR1_2,fR2_2,fR3_2,fR4_2,fR5_2,sR_2⟩:=R2.open6;obtain⟨ax2,kx2,rfl,-⟩:=x2.view;(try simp only[List.length_nil]at x2);obtain⟨ay2,ky2,rfl,-⟩:=y2.view;try simp only[List.length_nil]at y2)
    |fail)
 obtain⟨z0,z1,z2,z3,z4,z5,-⟩:=(R2.set6 (.bool p1) (.slice ax2 (digs BB k1).length kx2) (.int .i64 f1) (.bool p2) (.slice ay2 (digs BB k2).length ky2) (.int .i64 f2)).open6
 refine bodyPost_ret (v:= .tuple #[.agg #[.bool p1,.slice ax2 (digs BB k1).length kx2,.int .i64 f1,.bool p2,.slice ay2 (digs BB k2).length ky2,.int .i64 f2],.int .i64 er]) (by simp[results,Tryz.results31,go_sem,z0,z1,z2,z3,z4,z5]) rfl ⟨_,_,_,_,_,_,_,_,_,rfl,hO,x2.set6 R2 dcells6 _ _ _ _ _ _,y2.set6 R2 dcells6 _ _ _ _ _ _,below_set6 B2 (by omega) _ _ _ _ _ _⟩
theorem right_of {n:Bool}{m:Nat}{e:Int}(h1:bitN m≤20000) (h2: -20000≤e) (h3:e≤20000) (h4:qv ⟨n,m,e⟩<4096) (h5: -4096<qv ⟨n,m,e⟩):rightB m e=true∧(m=0∨(bitN m:Int)-1+e<12):=by
 have ht:m=0∨(bitN m:Int)-1+e<12:=by
  by_cases h0:m=0
  ·exact .inl h0
  ·exact .inr (top_small (d:=⟨n,m,e⟩) h0 h4 h5)
 refine⟨?_,ht⟩
 unfold rightB fitsE topD
 simp only[Bool.and_eq_true,Bool.or_eq_true,decide_eq_true_eq]
 exact⟨⟨by omega,by omega⟩,h1,h2,ht⟩
open Go.RowKit
def clsN (d:Dn):Int:=ofB (signD d) true (cmpD d ⟨false,355,1⟩) (cmpD d ⟨true,373,1⟩) (cmpD d ⟨false,1,-60⟩) (cmpD d ⟨true,1,-60⟩)
theorem mntN_lt (b:Nat):mntN b<9007199254740992:=by unfold mntN frcN;split<;>omega
theorem mnt_bits (b:Nat):bitN (mntN b)≤53:=bitN_le.2 (by rw[show(2:Nat)^53=9007199254740992 by decide];exact mntN_lt b)
theorem dyB_mid {b:Nat}(h:fldN b<2047):Mid 1100 (dyB b)∧bareD (dyB b)=dyB b∧bitN (dyB b).m≤53∧qv (dyB b)=qv ⟨negN b,mntN b,expN b⟩:=by
 have h1:=mnt_bits b
 have h2: -1075≤expN b:=by unfold expN;omega
 have h3:expN b≤971:=by unfold expN;omega
 have hm:Mid 1100 ⟨negN b,mntN b,expN b⟩:=⟨by show-1100≤expN b;omega,by show expN b≤1100;omega,by show(bitN (mntN b):Int)+expN b≤1100;omega⟩
 obtain⟨a1,a2,a3,a4,a5⟩:=hm.bare (by decide) (by decide)
 have hd:dyB b=bareD ⟨negN b,mntN b,expN b⟩:=rfl
 obtain⟨⟨n',m',e'⟩,hx⟩:∃d,bareD ⟨negN b,mntN b,expN b⟩=d:=⟨_,rfl⟩
 rw[hx]at a1
 rw[hd,hx]
 have c1:=a1.1;have c2:=a1.2.1
 dsimp only at c1 c2
 refine⟨a1,bareD_again hx (by omega) (by omega),Nat.le_trans (bareD_bits hx) h1,?_⟩
 rw[←hx,a5]
theorem kind_fin {b:Nat}:kindN b<3↔fldN b<2047:=by
 unfold kindN
 split
 ·split<;>omega
 ·split
  ·omega
  ·split
   ·omega
   ·split<;>omega
theorem kind_zero {b:Nat}(h:fldN b<2047):kindN b=0↔(dyB b).m=0:=by
 unfold dyB
 rw[bareD_m_zero]
 show _↔mntN b=0
 unfold kindN mntN
 constructor
 ·intro h1
  by_cases f0:fldN b=0
  ·rw[if_pos f0]at h1
   by_cases g:frcN b=0
   ·rw[if_neg (by omega)];exact g
   ·rw[if_neg g]at h1;omega
  ·rw[if_neg f0,if_pos h]at h1;omega
 ·intro h1
  split at h1
  ·omega
  ·rw[if_pos (by omega),if_pos h1]
theorem cls_zero {d:Dn}(h:clsN d=0) (h0:d.m≠0): -746<qv d∧qv d<710:=by
 have e1:qv ⟨false,355,1⟩=710:=by rw[qv_pos,pw_one];decide+kernel
 have e2:qv ⟨true,373,1⟩= -746:=by rw[qv_neg,pw_one];decide+kernel
 have c1:=cmpD_val d ⟨false,355,1⟩
 have c2:=cmpD_val d ⟨true,373,1⟩
 rw[e1]at c1
 rw[e2]at c2
 have hs:signD d≠0:=by
  unfold signD
  rw[if_neg h0]
  split<;>decide
 unfold clsN ofB at h
 rw[if_neg (by intro hh;rcases hh with hh|hh;exact hs hh;cases hh)]at h
 split at h
 ·cases h
 ·split at h
  ·cases h
  ·rename_i g1 g2
   constructor
   ·rcases c2 with⟨a,b⟩|⟨a,b⟩|⟨a,b⟩
    ·omega
    ·omega
    ·exact a
   ·rcases c1 with⟨a,b⟩|⟨a,b⟩|⟨a,b⟩
    ·exact a
    ·omega
    ·omega
theorem cls_right {d:Dn}(h:clsN d=0) (h0:d.m≠0) (hm:Mid 1100 d):rightB d.m d.e=true:=by
 obtain⟨h1,h2⟩:=cls_zero h h0
 have b:=hm.bits
 obtain⟨a1,a2,a3⟩:=hm
 exact(right_of (n:=d.neg) (by omega) (by omega) (by omega) (show qv d<4096 by grind) (show-4096<qv d by grind)).1
def IvExp (d:Dn) (n:Nat) (lo hi:Dn):Prop:=∃k,ExpT d lo hi (n+64) k
def ExpRes (d:Dn) (fr pt:Nat) (dir:Int) (b:Nat) (f st tr:Int):Prop:=
 (clsN d≠0∧resB (clsN d) false dir=(b,f,true)∧st=0∧tr=0)∨(clsN d=0∧∃l,PlanR fr pt l∧RunR (IvExp d) false dir l b f st tr)
theorem res_true {d:Dn}{dir:Int}(h:clsN d≠0) (d0:0≤dir) (d3:dir≤3):∃b f,resB (clsN d) false dir=(b,f,true)∧(f=1∨f=3∨f=5):=by
 have hk:clsN d=1∨clsN d=2∨clsN d=3∨clsN d=4:=by
  unfold clsN ofB at h⊢
  split
  ·rename_i g;rw[if_pos g]at h;exact absurd rfl h
  ·rename_i g;rw[if_neg g]at h
   split
   ·exact .inl rfl
   ·rename_i g;rw[if_neg g]at h
    split
    ·exact .inr (.inl rfl)
    ·rename_i g;rw[if_neg g]at h
     split
     ·exact .inr (.inr (.inl rfl))
     ·rename_i g;rw[if_neg g]at h
      split
      ·exact .inr (.inr (.inr rfl))
      ·rename_i g;rw[if_neg g]at h;exact absurd rfl h
 have g:¬(dir<0∨3<dir):=by omega
 unfold resB
 rw[if_neg g]
 rcases hk with hk|hk|hk|hk
 ·rw[hk,if_pos rfl];exact⟨_,_,rfl,.inr (.inr rfl)⟩
 ·rw[hk,if_neg (by decide),if_pos rfl];exact⟨_,_,rfl,.inr (.inl rfl)⟩
 ·rw[hk,if_neg (by decide),if_neg (by decide),if_pos rfl];exact⟨_,_,rfl,.inl rfl⟩
 ·rw[hk,if_neg (by decide),if_neg (by decide),if_neg (by decide),if_pos rfl];exact⟨_,_,rfl,.inl rfl⟩
theorem ExpT.bare {d lo hi:Dn}{s:Nat}{k:Int}(h:ExpT d lo hi s k):BareI lo hi:=by
 obtain⟨L,H,-,-,-,o⟩:=h
 obtain⟨a1,a2,a3⟩:=o.z1
 obtain⟨b1,b2,b3⟩:=o.z2
 exact⟨o.b1,o.b2,by unfold fitsE;simp;omega,by unfold fitsE;simp;omega,by omega,by omega⟩
theorem below_al {w w':World}(h:Below w.heap.size w w') (o:Obj):Below w.heap.size w (w'.alloc o):=h.alloc h.size o
theorem eexp_bad {w:World}{x:Nat}{a b dir:Int}(hx:x<18446744073709551616) (hbad:¬planOk a b∨dir<0∨3<dir):
 Calls Tryz.prog 11 #[L64 x,.agg #[.int .i64 dir,.int .i64 a,.int .i64 b,.pointer none]] w (fun r w'=>r= .returned (.tuple #[.agg #[.int .u64 0,.int .u8 0,.int .i64 0],.int .i64 0,.int .i64 1])∧Below w.heap.size w w'):=by
 have HE:=Lib.hid (fun w=>early_bad (w:=w) hx hbad)
 clear hbad hx
 go_enter Tryz.func11,Tryz.ntmps11
 go_wp2_with
  (first
    |(go_at_call 22;(with_reducible refine(HE.out _).mono ?_);rintro e w1 ⟨rfl,hb1⟩;have B1:=below_2.trans (hb1.mono below_2.size);have P1:=((blk_a1)).below hb1;have R1:=((blk_a2)).below hb1;obtain⟨cP0_1,cP1_1,cP2_1,cP3_1,fP0_1,fP1_1,fP2_1,fP3_1,sP_1⟩:=P1.open4;obtain⟨cR0_1,cR1_1,cR2_1,fR0_1,fR1_1,fR2_1,sR_1⟩:=R1.open3)
    |fail)
 obtain⟨z0,z1,z2,-⟩:=((R1.set3 (.int .u64 0) (.int .u8 0) (.int .i64 0)).below (below_alloc _ (.cells #[.int .u64 0,.int .u8 0,.int .i64 0] 38 (0,0)))).open3
 refine bodyPost_ret (v:= .tuple #[.agg #[.int .u64 0,.int .u8 0,.int .i64 0],.int .i64 0,.int .i64 1]) (by simp[results,Tryz.results11,go_sem,z0,z1,z2]) rfl ⟨rfl,below_al (below_set3b B1 (by omega) _ _ _) _⟩
theorem eexp_sig {w:World}{x fr pt:Nat}{dir:Int}(hx:x<18446744073709551616) (h1:32≤fr) (h2:fr≤pt) (h3:64≤pt) (h4:pt≤8192) (d0:0≤dir) (d3:dir≤3) (hk:kindN x=5):
 Calls Tryz.prog 11 #[L64 x,.agg #[.int .i64 dir,.int .i64 (fr:Int),.int .i64 (pt:Int),.pointer none]] w (fun r w'=>r= .returned (.tuple #[.agg #[.int .u64 9221120237041090560,.int .u8 16,.int .i64 0],.int .i64 0,.int .i64 0])∧Below w.heap.size w w'):=by
 have HE:=Lib.hid (fun w=>early_sig (w:=w) hx h1 h2 h3 h4 d0 d3 hk)
 clear h1 h2 h3 h4 d0 d3 hk hx
 go_enter Tryz.func11,Tryz.ntmps11
 go_wp2_with
  (first
    |(go_at_call 22;(with_reducible refine(HE.out _).mono ?_);rintro e w1 ⟨rfl,hb1⟩;have B1:=below_2.trans (hb1.mono below_2.size);have P1:=((blk_a1)).below hb1;have R1:=((blk_a2)).below hb1;obtain⟨cP0_1,cP1_1,cP2_1,cP3_1,fP0_1,fP1_1,fP2_1,fP3_1,sP_1⟩:=P1.open4;obtain⟨cR0_1,cR1_1,cR2_1,fR0_1,fR1_1,fR2_1,sR_1⟩:=R1.open3)
    |fail)
 obtain⟨z0,z1,z2,-⟩:=((R1.set3 (.int .u64 9221120237041090560) (.int .u8 16) (.int .i64 0)).below (below_alloc _ (.cells #[.int .u64 9221120237041090560,.int .u8 16,.int .i64 0] 38 (0,0)))).open3
 refine bodyPost_ret (v:= .tuple #[.agg #[.int .u64 9221120237041090560,.int .u8 16,.int .i64 0],.int .i64 0,.int .i64 0]) (by simp[results,Tryz.results11,go_sem,z0,z1,z2]) rfl ⟨rfl,below_al (below_set3b B1 (by omega) _ _ _) _⟩
theorem eexp_quiet {w:World}{x fr pt:Nat}{dir:Int}(hx:x<18446744073709551616) (h1:32≤fr) (h2:fr≤pt) (h3:64≤pt) (h4:pt≤8192) (d0:0≤dir) (d3:dir≤3) (hk:kindN x=4):
 Calls Tryz.prog 11 #[L64 x,.agg #[.int .i64 dir,.int .i64 (fr:Int),.int .i64 (pt:Int),.pointer none]] w (fun r w'=>r= .returned (.tuple #[.agg #[.int .u64 9221120237041090560,.int .u8 0,.int .i64 0],.int .i64 0,.int .i64 0])∧Below w.heap.size w w'):=by
 have HE:=Lib.hid (fun w=>early_quiet (w:=w) hx h1 h2 h3 h4 d0 d3 hk)
 clear h1 h2 h3 h4 d0 d3 hk hx
 go_enter Tryz.func11,Tryz.ntmps11
 go_wp2_with
  (first
    |(go_at_call 22;(with_reducible refine(HE.out _).mono ?_);rintro e w1 ⟨rfl,hb1⟩;have B1:=below_2.trans (hb1.mono below_2.size);have P1:=((blk_a1)).below hb1;have R1:=((blk_a2)).below hb1;obtain⟨cP0_1,cP1_1,cP2_1,cP3_1,fP0_1,fP1_1,fP2_1,fP3_1,sP_1⟩:=P1.open4;obtain⟨cR0_1,cR1_1,cR2_1,fR0_1,fR1_1,fR2_1,sR_1⟩:=R1.open3)
    |fail)
 obtain⟨z0,z1,z2,-⟩:=((R1.set3 (.int .u64 9221120237041090560) (.int .u8 0) (.int .i64 0)).below (below_alloc _ (.cells #[.int .u64 9221120237041090560,.int .u8 0,.int .i64 0] 38 (0,0)))).open3
 refine bodyPost_ret (v:= .tuple #[.agg #[.int .u64 9221120237041090560,.int .u8 0,.int .i64 0],.int .i64 0,.int .i64 0]) (by simp[results,Tryz.results11,go_sem,z0,z1,z2]) rfl ⟨rfl,below_al (below_set3b B1 (by omega) _ _ _) _⟩
theorem eln_bad {w:World}{x:Nat}{a b dir:Int}(hx:x<18446744073709551616) (hbad:¬planOk a b∨dir<0∨3<dir):
 Calls Tryz.prog 12 #[L64 x,.agg #[.int .i64 dir,.int .i64 a,.int .i64 b,.pointer none]] w (fun r w'=>r= .returned (.tuple #[.agg #[.int .u64 0,.int .u8 0,.int .i64 0],.int .i64 0,.int .i64 1])∧Below w.heap.size w w'):=by
 have HE:=Lib.hid (fun w=>early_bad (w:=w) hx hbad)
 clear hbad hx
 go_enter Tryz.func12,Tryz.ntmps12
 go_wp2_with
  (first
    |(go_at_call 22;(with_reducible refine(HE.out _).mono ?_);rintro e w1 ⟨rfl,hb1⟩;have B1:=below_2.trans (hb1.mono below_2.size);have P1:=((blk_a1)).below hb1;have R1:=((blk_a2)).below hb1;obtain⟨cP0_1,cP1_1,cP2_1,cP3_1,fP0_1,fP1_1,fP2_1,fP3_1,sP_1⟩:=P1.open4;obtain⟨cR0_1,cR1_1,cR2_1,fR0_1,fR1_1,fR2_1,sR_1⟩:=R1.open3)
    |fail)
 obtain⟨z0,z1,z2,-⟩:=((R1.set3 (.int .u64 0) (.int .u8 0) (.int .i64 0)).below (below_alloc _ (.cells #[.int .u64 0,.int .u8 0,.int .i64 0] 38 (0,0)))).open3
 refine bodyPost_ret (v:= .tuple #[.agg #[.int .u64 0,.int .u8 0,.int .i64 0],.int .i64 0,.int .i64 1]) (by simp[results,Tryz.results12,go_sem,z0,z1,z2]) rfl ⟨rfl,below_al (below_set3b B1 (by omega) _ _ _) _⟩
theorem eln_sig {w:World}{x fr pt:Nat}{dir:Int}(hx:x<18446744073709551616) (h1:32≤fr) (h2:fr≤pt) (h3:64≤pt) (h4:pt≤8192) (d0:0≤dir) (d3:dir≤3) (hk:kindN x=5):
 Calls Tryz.prog 12 #[L64 x,.agg #[.int .i64 dir,.int .i64 (fr:Int),.int .i64 (pt:Int),.pointer none]] w (fun r w'=>r= .returned (.tuple #[.agg #[.int .u64 9221120237041090560,.int .u8 16,.int .i64 0],.int .i64 0,.int .i64 0])∧Below w.heap.size w w'):=by
 have HE:=Lib.hid (fun w=>early_sig (w:=w) hx h1 h2 h3 h4 d0 d3 hk)
 clear h1 h2 h3 h4 d0 d3 hk hx
 go_enter Tryz.func12,Tryz.ntmps12
 go_wp2_with
  (first
    |(go_at_call 22;(with_reducible refine(HE.out _).mono ?_);rintro e w1 ⟨rfl,hb1⟩;have B1:=below_2.trans (hb1.mono below_2.size);have P1:=((blk_a1)).below hb1;have R1:=((blk_a2)).below hb1;obtain⟨cP0_1,cP1_1,cP2_1,cP3_1,fP0_1,fP1_1,fP2_1,fP3_1,sP_1⟩:=P1.open4;obtain⟨cR0_1,cR1_1,cR2_1,fR0_1,fR1_1,fR2_1,sR_1⟩:=R1.open3)
    |fail)
 obtain⟨z0,z1,z2,-⟩:=((R1.set3 (.int .u64 9221120237041090560) (.int .u8 16) (.int .i64 0)).below (below_alloc _ (.cells #[.int .u64 9221120237041090560,.int .u8 16,.int .i64 0] 38 (0,0)))).open3
 refine bodyPost_ret (v:= .tuple #[.agg #[.int .u64 9221120237041090560,.int .u8 16,.int .i64 0],.int .i64 0,.int .i64 0]) (by simp[results,Tryz.results12,go_sem,z0,z1,z2]) rfl ⟨rfl,below_al (below_set3b B1 (by omega) _ _ _) _⟩
theorem eln_quiet {w:World}{x fr pt:Nat}{dir:Int}(hx:x<18446744073709551616) (h1:32≤fr) (h2:fr≤pt) (h3:64≤pt) (h4:pt≤8192) (d0:0≤dir) (d3:dir≤3) (hk:kindN x=4):
 Calls Tryz.prog 12 #[L64 x,.agg #[.int .i64 dir,.int .i64 (fr:Int),.int .i64 (pt:Int),.pointer none]] w (fun r w'=>r= .returned (.tuple #[.agg #[.int .u64 9221120237041090560,.int .u8 0,.int .i64 0],.int .i64 0,.int .i64 0])∧Below w.heap.size w w'):=by
 have HE:=Lib.hid (fun w=>early_quiet (w:=w) hx h1 h2 h3 h4 d0 d3 hk)
 clear h1 h2 h3 h4 d0 d3 hk hx
 go_enter Tryz.func12,Tryz.ntmps12
 go_wp2_with
  (first
    |(go_at_call 22;(with_reducible refine(HE.out _).mono ?_);rintro e w1 ⟨rfl,hb1⟩;have B1:=below_2.trans (hb1.mono below_2.size);have P1:=((blk_a1)).below hb1;have R1:=((blk_a2)).below hb1;obtain⟨cP0_1,cP1_1,cP2_1,cP3_1,fP0_1,fP1_1,fP2_1,fP3_1,sP_1⟩:=P1.open4;obtain⟨cR0_1,cR1_1,cR2_1,fR0_1,fR1_1,fR2_1,sR_1⟩:=R1.open3)
    |fail)
 obtain⟨z0,z1,z2,-⟩:=((R1.set3 (.int .u64 9221120237041090560) (.int .u8 0) (.int .i64 0)).below (below_alloc _ (.cells #[.int .u64 9221120237041090560,.int .u8 0,.int .i64 0] 38 (0,0)))).open3
 refine bodyPost_ret (v:= .tuple #[.agg #[.int .u64 9221120237041090560,.int .u8 0,.int .i64 0],.int .i64 0,.int .i64 0]) (by simp[results,Tryz.results12,go_sem,z0,z1,z2]) rfl ⟨rfl,below_al (below_set3b B1 (by omega) _ _ _) _⟩
theorem fin_of_kind {b:Nat}(h:kindN b=3):¬fldN b<2047:=fun g=>by have:=kind_fin.2 g;omega
theorem eexp_ninf {w:World}{x fr pt:Nat}{dir:Int}(hx:x<18446744073709551616) (h1:32≤fr) (h2:fr≤pt) (h3:64≤pt) (h4:pt≤8192) (d0:0≤dir) (d3:dir≤3) (hk:kindN x=3) (hn:negN x=true):
 Calls Tryz.prog 11 #[L64 x,.agg #[.int .i64 dir,.int .i64 (fr:Int),.int .i64 (pt:Int),.pointer none]] w (fun r w'=>r= .returned (.tuple #[.agg #[.int .u64 0,.int .u8 0,.int .i64 0],.int .i64 0,.int .i64 0])∧Below w.heap.size w w'):=by
 have HE:=Lib.hid (fun w=>early_n (w:=w) hx h1 h2 h3 h4 d0 d3 hk (by omega))
 have HD:=Lib.hid (fun w=>fdyad_no (w:=w) hx (fin_of_kind hk))
 have HN:=Lib.hid (fun w=>fneg_n (w:=w) hx)
 rw[hn]at HN
 have HI:=Lib.hid (fun w=>show Calls Tryz.prog 25 #[.int .u64 0] w _ from eis_n (w:=w) (b:=0))
 clear h1 h2 h3 h4 d0 d3 hx hk hn
 go_enter Tryz.func11,Tryz.ntmps11
 go_wp2_with
  (first
    |(go_at_call 22;(with_reducible refine(HE.out _).mono ?_);rintro e w1 ⟨rfl,hb1⟩;have B1:=below_2.trans (hb1.mono below_2.size);have P1:=((blk_a1)).below hb1;have R1:=((blk_a2)).below hb1;obtain⟨cP0_1,cP1_1,cP2_1,cP3_1,fP0_1,fP1_1,fP2_1,fP3_1,sP_1⟩:=P1.open4;obtain⟨cR0_1,cR1_1,cR2_1,fR0_1,fR1_1,fR2_1,sR_1⟩:=R1.open3)
    |(go_at_call 23;(with_reducible refine(HD.out _).mono ?_);rintro e w2 ⟨rfl,hb2⟩;have hb2':=(below_a hb2);have B2:=B1.trans (hb2'.mono B1.size);have P2:=P1.below hb2';have R2:=R1.below hb2';clear P1 R1;clear cP0_1 cP1_1 cP2_1 cP3_1 fP0_1 fP1_1 fP2_1 fP3_1 sP_1;obtain⟨cP0_2,cP1_2,cP2_2,cP3_2,fP0_2,fP1_2,fP2_2,fP3_2,sP_2⟩:=P2.open4;clear cR0_1 cR1_1 cR2_1 fR0_1 fR1_1 fR2_1 sR_1;obtain⟨cR0_2,cR1_2,cR2_2,fR0_2,fR1_2,fR2_2,sR_2⟩:=R2.open3)
    |(go_at_call 24;(with_reducible refine(HN.out _).mono ?_);rintro e w3 ⟨rfl,rfl⟩)
    |(go_at_call 25;(with_reducible refine(HI.out _).mono ?_);rintro e w4 ⟨rfl,hb4⟩;have hb4':=(below_a hb4);have B4:=B2.trans (hb4'.mono B2.size);have P4:=P2.below hb4';have R4:=R2.below hb4';clear P2 R2;obtain⟨cP0_4,cP1_4,cP2_4,cP3_4,fP0_4,fP1_4,fP2_4,fP3_4,sP_4⟩:=P4.open4;obtain⟨cR0_4,cR1_4,cR2_4,fR0_4,fR1_4,fR2_4,sR_4⟩:=R4.open3)
    |fail)
 obtain⟨z0,z1,z2,-⟩:=(R4.set3 (.int .u64 0) (.int .u8 0) (.int .i64 0)).open3
 refine bodyPost_ret (v:= .tuple #[.agg #[.int .u64 0,.int .u8 0,.int .i64 0],.int .i64 0,.int .i64 0]) (by simp[results,Tryz.results11,go_sem,z0,z1,z2]) rfl ⟨rfl,below_set3b B4 (by omega) _ _ _⟩
theorem eexp_pinf {w:World}{x fr pt:Nat}{dir:Int}(hx:x<18446744073709551616) (h1:32≤fr) (h2:fr≤pt) (h3:64≤pt) (h4:pt≤8192) (d0:0≤dir) (d3:dir≤3) (hk:kindN x=3) (hn:negN x=false):
 Calls Tryz.prog 11 #[L64 x,.agg #[.int .i64 dir,.int .i64 (fr:Int),.int .i64 (pt:Int),.pointer none]] w (fun r w'=>r= .returned (.tuple #[.agg #[.int .u64 9218868437227405312,.int .u8 0,.int .i64 0],.int .i64 0,.int .i64 0])∧Below w.heap.size w w'):=by
 have HE:=Lib.hid (fun w=>early_n (w:=w) hx h1 h2 h3 h4 d0 d3 hk (by omega))
 have HD:=Lib.hid (fun w=>fdyad_no (w:=w) hx (fin_of_kind hk))
 have HN:=Lib.hid (fun w=>fneg_n (w:=w) hx)
 rw[hn]at HN
 have HI:=Lib.hid (fun w=>show Calls Tryz.prog 25 #[.int .u64 9218868437227405312] w _ from eis_n (w:=w) (b:=9218868437227405312))
 clear h1 h2 h3 h4 d0 d3 hx hk hn
 go_enter Tryz.func11,Tryz.ntmps11
 go_wp2_with
  (first
    |(go_at_call 22;(with_reducible refine(HE.out _).mono ?_);rintro e w1 ⟨rfl,hb1⟩;have B1:=below_2.trans (hb1.mono below_2.size);have P1:=((blk_a1)).below hb1;have R1:=((blk_a2)).below hb1;obtain⟨cP0_1,cP1_1,cP2_1,cP3_1,fP0_1,fP1_1,fP2_1,fP3_1,sP_1⟩:=P1.open4;obtain⟨cR0_1,cR1_1,cR2_1,fR0_1,fR1_1,fR2_1,sR_1⟩:=R1.open3)
    |(go_at_call 23;(with_reducible refine(HD.out _).mono ?_);rintro e w2 ⟨rfl,hb2⟩;have hb2':=(below_a hb2);have B2:=B1.trans (hb2'.mono B1.size);have P2:=P1.below hb2';have R2:=R1.below hb2';clear P1 R1;clear cP0_1 cP1_1 cP2_1 cP3_1 fP0_1 fP1_1 fP2_1 fP3_1 sP_1;obtain⟨cP0_2,cP1_2,cP2_2,cP3_2,fP0_2,fP1_2,fP2_2,fP3_2,sP_2⟩:=P2.open4;clear cR0_1 cR1_1 cR2_1 fR0_1 fR1_1 fR2_1 sR_1;obtain⟨cR0_2,cR1_2,cR2_2,fR0_2,fR1_2,fR2_2,sR_2⟩:=R2.open3)
    |(go_at_call 24;(with_reducible refine(HN.out _).mono ?_);rintro e w3 ⟨rfl,rfl⟩)
    |(go_at_call 25;(with_reducible refine(HI.out _).mono ?_);rintro e w4 ⟨rfl,hb4⟩;have hb4':=(below_a hb4);have B4:=B2.trans (hb4'.mono B2.size);have P4:=P2.below hb4';have R4:=R2.below hb4';clear P2 R2;obtain⟨cP0_4,cP1_4,cP2_4,cP3_4,fP0_4,fP1_4,fP2_4,fP3_4,sP_4⟩:=P4.open4;obtain⟨cR0_4,cR1_4,cR2_4,fR0_4,fR1_4,fR2_4,sR_4⟩:=R4.open3)
    |fail)
 obtain⟨z0,z1,z2,-⟩:=(R4.set3 (.int .u64 9218868437227405312) (.int .u8 0) (.int .i64 0)).open3
 refine bodyPost_ret (v:= .tuple #[.agg #[.int .u64 9218868437227405312,.int .u8 0,.int .i64 0],.int .i64 0,.int .i64 0]) (by simp[results,Tryz.results11,go_sem,z0,z1,z2]) rfl ⟨rfl,below_set3b B4 (by omega) _ _ _⟩
theorem eexp_zero {w:World}{x fr pt:Nat}{dir:Int}(hx:x<18446744073709551616) (h1:32≤fr) (h2:fr≤pt) (h3:64≤pt) (h4:pt≤8192) (d0:0≤dir) (d3:dir≤3) (hT:Tab w) (hk:kindN x=0):
 Calls Tryz.prog 11 #[L64 x,.agg #[.int .i64 dir,.int .i64 (fr:Int),.int .i64 (pt:Int),.pointer none]] w (fun r w'=>r= .returned (.tuple #[.agg #[.int .u64 4607182418800017408,.int .u8 0,.int .i64 0],.int .i64 0,.int .i64 0])∧Below w.heap.size w w'):=by
 have HE:=Lib.hid (fun w=>early_n (w:=w) hx h1 h2 h3 h4 d0 d3 hk (by omega))
 have hf:=kind_fin.1 (show kindN x<3 by omega)
 have hz:=(kind_zero hf).1 hk
 obtain⟨⟨n',m',e'⟩,hd⟩:∃d,dyB x=d:=⟨_,rfl⟩
 rw[hd]at hz
 dsimp only at hz
 subst hz
 have HD:=Lib.hid (fun w (hT:Tab w)=>fdyad_n (w:=w) hx hT hf hd)
 have HS:=Lib.hid (fun w v (h:RdN w v (digs BB 0))=>Sign_n (neg:=n') (E:=e') (h.num (by rw[bitN_zero];decide)) (s:=0) rfl)
 have HI:=Lib.hid (fun w=>show Calls Tryz.prog 25 #[.int .u64 4607182418800017408] w _ from eis_n (w:=w) (b:=4607182418800017408))
 clear h1 h2 h3 h4 d0 d3 hx hk hf hd
 go_enter Tryz.func11,Tryz.ntmps11
 go_wp2_with
  (first
    |(go_at_call 22;(with_reducible refine(HE.out _).mono ?_);rintro e w1 ⟨rfl,hb1⟩;have B1:=below_2.trans (hb1.mono below_2.size);have T1:=((hT.below below_2)).below hb1;have P1:=((blk_a1)).below hb1;have R1:=((blk_a2)).below hb1;obtain⟨cP0_1,cP1_1,cP2_1,cP3_1,fP0_1,fP1_1,fP2_1,fP3_1,sP_1⟩:=P1.open4;obtain⟨cR0_1,cR1_1,cR2_1,fR0_1,fR1_1,fR2_1,sR_1⟩:=R1.open3)
    |(go_at_call 23;(with_reducible refine(HD.out _ (T1.below (below_alloc _ _))).mono ?_);rintro e w2 ⟨v2,rfl,x2,hb2⟩;have hb2':=(below_a hb2);have B2:=B1.trans (hb2'.mono B1.size);have T2:=T1.below hb2';have P2:=P1.below hb2';have R2:=R1.below hb2';clear T1 P1 R1;clear cP0_1 cP1_1 cP2_1 cP3_1 fP0_1 fP1_1 fP2_1 fP3_1 sP_1;obtain⟨cP0_2,cP1_2,cP2_2,cP3_2,fP0_2,fP1_2,fP2_2,fP3_2,sP_2⟩:=P2.open4;clear cR0_1 cR1_1 cR2_1 fR0_1 fR1_1 fR2_1 sR_1;obtain⟨cR0_2,cR1_2,cR2_2,fR0_2,fR1_2,fR2_2,sR_2⟩:=R2.open3;obtain⟨ax2,kx2,rfl,-⟩:=x2.view;try simp only[List.length_nil]at x2)
    |(go_at_call 26;(with_reducible refine(HS.out _ _ (x2.below (below_alloc _ _))).mono ?_);rintro e w3 ⟨rfl,hb3⟩;have hb3':=(below_a hb3);have B3:=B2.trans (hb3'.mono B2.size);have T3:=T2.below hb3';have P3:=P2.below hb3';have R3:=R2.below hb3';have x3:=x2.below hb3';clear T2 P2 R2 x2;have D3:=blk_new.below hb3;clear cP0_2 cP1_2 cP2_2 cP3_2 fP0_2 fP1_2 fP2_2 fP3_2 sP_2;obtain⟨cP0_3,cP1_3,cP2_3,cP3_3,fP0_3,fP1_3,fP2_3,fP3_3,sP_3⟩:=P3.open4;clear cR0_2 cR1_2 cR2_2 fR0_2 fR1_2 fR2_2 sR_2;obtain⟨cR0_3,cR1_3,cR2_3,fR0_3,fR1_3,fR2_3,sR_3⟩:=R3.open3;obtain⟨cD0_3,cD1_3,cD2_3,fD0_3,fD1_3,fD2_3,sD_3⟩:=D3.open3)
    |(go_at_call 25;(with_reducible refine(HI.out _).mono ?_);rintro e w4 ⟨rfl,hb4⟩;have B4:=B3.trans (hb4.mono B3.size);have T4:=T3.below hb4;have P4:=P3.below hb4;have R4:=R3.below hb4;have x4:=x3.below hb4;have D4:=D3.below hb4;clear T3 P3 R3 x3 D3;clear cP0_3 cP1_3 cP2_3 cP3_3 fP0_3 fP1_3 fP2_3 fP3_3 sP_3;obtain⟨cP0_4,cP1_4,cP2_4,cP3_4,fP0_4,fP1_4,fP2_4,fP3_4,sP_4⟩:=P4.open4;clear cR0_3 cR1_3 cR2_3 fR0_3 fR1_3 fR2_3 sR_3;obtain⟨cR0_4,cR1_4,cR2_4,fR0_4,fR1_4,fR2_4,sR_4⟩:=R4.open3;clear cD0_3 cD1_3 cD2_3 fD0_3 fD1_3 fD2_3 sD_3;obtain⟨cD0_4,cD1_4,cD2_4,fD0_4,fD1_4,fD2_4,sD_4⟩:=D4.open3)
    |fail)
 obtain⟨z0,z1,z2,-⟩:=(R4.set3 (.int .u64 4607182418800017408) (.int .u8 0) (.int .i64 0)).open3
 refine bodyPost_ret (v:= .tuple #[.agg #[.int .u64 4607182418800017408,.int .u8 0,.int .i64 0],.int .i64 0,.int .i64 0]) (by simp[results,Tryz.results11,go_sem,z0,z1,z2]) rfl ⟨rfl,below_set3b B4 (by omega) _ _ _⟩
theorem cmp_self2 (d:Dn):cmpD d d=0:=by
 rcases cmpD_val d d with⟨h,-⟩|⟨-,h⟩|⟨h,-⟩
 ·exact absurd h Rat.lt_irrefl
 ·exact h
 ·exact absurd h Rat.lt_irrefl
theorem bof_at {w:World}{v v':Value}{n:Bool}{m:Nat}{e s c:Int}(h:Num w v m) (h':Num w v' m) (hT:Tab w) (hm:Mid 1100 ⟨n,m,e⟩) (hb:bareD ⟨n,m,e⟩=⟨n,m,e⟩) (hs:signD ⟨n,m,e⟩=s) (hc:clsN ⟨n,m,e⟩=c):
 Calls Tryz.prog 27 #[.agg #[.bool n,v,.int .i64 e,.bool n,v',.int .i64 e],.int .i64 s] w (fun e w'=>e= .returned (.int .i64 c)∧Below w.heap.size w w'):=by
 have hms:=hm.bits;have hm1:=hm.1;have hm2:=hm.2.1
 dsimp only at hms hm1 hm2
 have hfit:fitsE e=true:=by unfold fitsE;simp;omega
 refine bOf_n (neg:=n) (neg2:=n) (f1:=true) (f2:=true) (c:=0) (s:=s) (k:=c) (ca:=cmpD ⟨n,m,e⟩ ⟨false,355,1⟩) (cb:=cmpD ⟨n,m,e⟩ ⟨true,373,1⟩) (cn:=cmpD ⟨n,m,e⟩ ⟨false,1,-60⟩) (co:=cmpD ⟨n,m,e⟩ ⟨true,1,-60⟩) h h' hT (by omega) (by omega) (by omega) (by omega) (by omega) (by omega) (by rw[hb];exact hfit) (by rw[hb];exact hfit) (by rw[hb];exact cmp_self2 _) (by rw[hb]) (by rw[hb]) (by rw[hb]) (by rw[hb]) ?_
 rw[←hc,←hs]
 rfl
set_option maxHeartbeats 1000000 in
theorem eexp_fin {w:World}{x fr pt:Nat}{dir:Int}(hx:x<18446744073709551616) (h1:32≤fr) (h2:fr≤pt) (h3:64≤pt) (h4:pt≤8192) (d0:0≤dir) (d3:dir≤3) (hT:Tab w) (hf:fldN x<2047) (hk0:kindN x≠0):
 Calls Tryz.prog 11 #[L64 x,.agg #[.int .i64 dir,.int .i64 (fr:Int),.int .i64 (pt:Int),.pointer none]] w (fun r w'=>∃b f st tr,r= .returned (.tuple #[.agg #[L64 b,.int .u8 f,.int .i64 st],.int .i64 tr,.int .i64 0])∧ExpRes (dyB x) fr pt dir b f st tr∧Below w.heap.size w w'):=by
 have hk:=kind_fin.2 hf
 have HE:=Lib.hid (fun w=>early_n (w:=w) (k:=kindN x) hx h1 h2 h3 h4 d0 d3 rfl (by omega))
 have hz:=fun h=>hk0 ((kind_zero hf).2 h)
 obtain⟨hm,hb,-,-⟩:=dyB_mid hf
 have hms:=hm.bits;have hm1:=hm.1;have hm2:=hm.2.1
 obtain⟨⟨n',m',e'⟩,hd⟩:∃d,dyB x=d:=⟨_,rfl⟩
 rw[hd]at hz hb hms hm1 hm2 hm
 rw[hd]
 dsimp only at hz hms hm1 hm2
 have HD:=Lib.hid (fun w (hT:Tab w)=>fdyad_n (w:=w) hx hT hf hd)
 obtain⟨s,hs⟩:∃s,signD ⟨n',m',e'⟩=s:=⟨_,rfl⟩
 have hs0:(s==0)=false:=beq_false_of_ne (by
  rw[←hs];unfold signD;dsimp only;rw[if_neg hz];split<;>decide)
 have HS:=Lib.hid (fun w v (h:RdN w v (digs BB m'))=>Sign_n (neg:=n') (E:=e') (h.num (by omega)) hs)
 obtain⟨c,hc⟩:∃c,clsN ⟨n',m',e'⟩=c:=⟨_,rfl⟩
 have hfit:fitsE e'=true:=by unfold fitsE;simp;omega
 have HO:=Lib.hid (fun w v (h:RdN w v (digs BB m')) (hT:Tab w)=>bof_at (h.num (by omega)) (h.num (by omega)) hT hm hb hs hc)
 clear hk hx
 go_enter Tryz.func11,Tryz.ntmps11
 go_upto_region 11 with
  (first
    |(go_at_call 22;(with_reducible refine(HE.out _).mono ?_);rintro e w1 ⟨rfl,hb1⟩;have B1:=below_2.trans (hb1.mono below_2.size);have T1:=((hT.below below_2)).below hb1;have P1:=((blk_a1)).below hb1;have R1:=((blk_a2)).below hb1;obtain⟨cP0_1,cP1_1,cP2_1,cP3_1,fP0_1,fP1_1,fP2_1,fP3_1,sP_1⟩:=P1.open4;obtain⟨cR0_1,cR1_1,cR2_1,fR0_1,fR1_1,fR2_1,sR_1⟩:=R1.open3)
    |(go_at_call 23;(with_reducible refine(HD.out _ (T1.below (below_alloc _ _))).mono ?_);rintro e w2 ⟨v2,rfl,x2,hb2⟩;have hb2':=(below_a hb2);have B2:=B1.trans (hb2'.mono B1.size);have T2:=T1.below hb2';have P2:=P1.below hb2';have R2:=R1.below hb2';clear T1 P1 R1;clear cP0_1 cP1_1 cP2_1 cP3_1 fP0_1 fP1_1 fP2_1 fP3_1 sP_1;obtain⟨cP0_2,cP1_2,cP2_2,cP3_2,fP0_2,fP1_2,fP2_2,fP3_2,sP_2⟩:=P2.open4;clear cR0_1 cR1_1 cR2_1 fR0_1 fR1_1 fR2_1 sR_1;obtain⟨cR0_2,cR1_2,cR2_2,fR0_2,fR1_2,fR2_2,sR_2⟩:=R2.open3;obtain⟨ax2,kx2,rfl,-⟩:=x2.view;try simp only[List.length_nil]at x2)
    |(go_at_call 26;(with_reducible refine(HS.out _ _ (x2.below (below_alloc _ _))).mono ?_);rintro e w3 ⟨rfl,hb3⟩;have hb3':=(below_a hb3);have B3:=B2.trans (hb3'.mono B2.size);have T3:=T2.below hb3';have P3:=P2.below hb3';have R3:=R2.below hb3';have x3:=x2.below hb3';clear T2 P2 R2 x2;have D3:=blk_new.below hb3;clear cP0_2 cP1_2 cP2_2 cP3_2 fP0_2 fP1_2 fP2_2 fP3_2 sP_2;obtain⟨cP0_3,cP1_3,cP2_3,cP3_3,fP0_3,fP1_3,fP2_3,fP3_3,sP_3⟩:=P3.open4;clear cR0_2 cR1_2 cR2_2 fR0_2 fR1_2 fR2_2 sR_2;obtain⟨cR0_3,cR1_3,cR2_3,fR0_3,fR1_3,fR2_3,sR_3⟩:=R3.open3;obtain⟨cD0_3,cD1_3,cD2_3,fD0_3,fD1_3,fD2_3,sD_3⟩:=D3.open3)
    |fail)
 go_cut [12] (fun v12 w'=>v12= .int .i64 c∧Below w3.heap.size w3 w')
 case first=>
  have HS':=Lib.hid (fun w' (hb:Below w3.heap.size w3 w')=>HS.out w' _ (x3.below hb))
  have HO':=Lib.hid (fun w' (hb:Below w3.heap.size w3 w')=>HO.out w' _ (x3.below hb) (T3.below hb))
  have HA':=Lib.hid (fun w=>eat_n (w:=w) (n:=n') (a:=ax2) (l:=(digs BB m').length) (k:=kx2) (e:=e'))
  go_region_held3 (fun w'=>w'.cell? ⟨w2.heap.size,0,none⟩=some (.bool n')∧w'.cell? ⟨w2.heap.size,1,none⟩=some (.slice ax2 (digs BB m').length kx2)∧w'.cell? ⟨w2.heap.size,2,none⟩=some (.int .i64 e'))
   (refine cells3 ?_<;>(repeat' (first|with_reducible assumption|with_reducible exact blk_new|with_reducible exact blk_a2|with_reducible exact Below.refl _ _|with_reducible refine Blk.set3z ?_ _ _ _|with_reducible refine Blk.other3 ?_ ?_ _ _ _|with_reducible refine Blk.below ?_ hbx|with_reducible refine Blk.below ?_ hby|with_reducible refine Blk.below ?_ hbz|with_reducible refine Blk.next ?_|with_reducible refine Blk.dr ?_|with_reducible refine bel_dr ?_|with_reducible refine bel_set3 ?_ ?_ _ _ _|with_reducible refine bel_trans ?_ hbx|with_reducible refine bel_trans ?_ hby|with_reducible refine bel_trans ?_ hbz|with_reducible refine bel_next ?_|with_reducible refine RdD.set3z ?_ ?_ _ _ _|with_reducible refine RdN.set3z ?_ ?_ _ _ _|with_reducible refine RdD.below ?_ hbx|with_reducible refine RdD.below ?_ hby|with_reducible refine RdD.below ?_ hbz|with_reducible refine RdN.below ?_ hbx|with_reducible refine RdN.below ?_ hby|with_reducible refine RdN.below ?_ hbz|with_reducible refine RdD.below ?_ (below_alloc _ _)|with_reducible refine RdN.below ?_ (below_alloc _ _)|((try simp only[size_alloc,size_drew]);omega))))
   (first
     |(go_at_call 28;(with_reducible refine(HA'.out _).mono ?_);rintro e wx ⟨rfl,hbx⟩)
     |(go_at_call 26;(with_reducible refine(HS'.out _ ?hbel).mono ?_);(case hbel=>(repeat' (first|with_reducible assumption|with_reducible exact blk_new|with_reducible exact blk_a2|with_reducible exact Below.refl _ _|with_reducible refine Blk.set3z ?_ _ _ _|with_reducible refine Blk.other3 ?_ ?_ _ _ _|with_reducible refine Blk.below ?_ hbx|with_reducible refine Blk.next ?_|with_reducible refine Blk.dr ?_|with_reducible refine bel_dr ?_|with_reducible refine bel_set3 ?_ ?_ _ _ _|with_reducible refine bel_trans ?_ hbx|with_reducible refine bel_next ?_|with_reducible refine RdD.set3z ?_ ?_ _ _ _|with_reducible refine RdN.set3z ?_ ?_ _ _ _|with_reducible refine RdD.below ?_ hbx|with_reducible refine RdN.below ?_ hbx|with_reducible refine RdD.below ?_ (below_alloc _ _)|with_reducible refine RdN.below ?_ (below_alloc _ _)|((try simp only[size_alloc,size_drew]);omega))));rintro e wy ⟨rfl,hby⟩)
     |(go_at_call 27;(with_reducible refine(HO'.out _ ?hbel).mono ?_);(case hbel=>(repeat' (first|with_reducible assumption|with_reducible exact blk_new|with_reducible exact blk_a2|with_reducible exact Below.refl _ _|with_reducible refine Blk.set3z ?_ _ _ _|with_reducible refine Blk.other3 ?_ ?_ _ _ _|with_reducible refine Blk.below ?_ hbx|with_reducible refine Blk.below ?_ hby|with_reducible refine Blk.next ?_|with_reducible refine Blk.dr ?_|with_reducible refine bel_dr ?_|with_reducible refine bel_set3 ?_ ?_ _ _ _|with_reducible refine bel_trans ?_ hbx|with_reducible refine bel_trans ?_ hby|with_reducible refine bel_next ?_|with_reducible refine RdD.set3z ?_ ?_ _ _ _|with_reducible refine RdN.set3z ?_ ?_ _ _ _|with_reducible refine RdD.below ?_ hbx|with_reducible refine RdD.below ?_ hby|with_reducible refine RdN.below ?_ hbx|with_reducible refine RdN.below ?_ hby|with_reducible refine RdD.below ?_ (below_alloc _ _)|with_reducible refine RdN.below ?_ (below_alloc _ _)|((try simp only[size_alloc,size_drew]);omega))));rintro e wz ⟨rfl,hbz⟩)
     |fail)
  all_goals
   go_wp2_with fail
   go_meet
   exact⟨rfl,by(repeat' (first|with_reducible assumption|with_reducible exact blk_new|with_reducible exact blk_a2|with_reducible exact Below.refl _ _|with_reducible refine Blk.set3z ?_ _ _ _|with_reducible refine Blk.other3 ?_ ?_ _ _ _|with_reducible refine Blk.below ?_ hbx|with_reducible refine Blk.below ?_ hby|with_reducible refine Blk.below ?_ hbz|with_reducible refine Blk.next ?_|with_reducible refine Blk.dr ?_|with_reducible refine bel_dr ?_|with_reducible refine bel_set3 ?_ ?_ _ _ _|with_reducible refine bel_trans ?_ hbx|with_reducible refine bel_trans ?_ hby|with_reducible refine bel_trans ?_ hbz|with_reducible refine bel_next ?_|with_reducible refine RdD.set3z ?_ ?_ _ _ _|with_reducible refine RdN.set3z ?_ ?_ _ _ _|with_reducible refine RdD.below ?_ hbx|with_reducible refine RdD.below ?_ hby|with_reducible refine RdD.below ?_ hbz|with_reducible refine RdN.below ?_ hbx|with_reducible refine RdN.below ?_ hby|with_reducible refine RdN.below ?_ hbz|with_reducible refine RdD.below ?_ (below_alloc _ _)|with_reducible refine RdN.below ?_ (below_alloc _ _)|((try simp only[size_alloc,size_drew]);omega)))⟩
 case rest=>
  obtain⟨rfl,hcb⟩:=hcut
  generalize hwx:wc=w4 at*
  clear hwx
  have T4:=T3.below hcb;have P4:=P3.below hcb;have R4:=R3.below hcb;have D4:=D3.below hcb;have x4:=x3.below hcb
  have B4:=B3.trans (hcb.mono B3.size)
  clear HS HO HD HE hcb T3 P3 R3 D3 x3 B3 cP0_3 cP1_3 cP2_3 cP3_3 fP0_3 fP1_3 fP2_3 fP3_3 sP_3 cR0_3 cR1_3 cR2_3 fR0_3 fR1_3 fR2_3 sR_3 cD0_3 cD1_3 cD2_3 fD0_3 fD1_3 fD2_3 sD_3
  generalize w2.heap.size=b10 at*
  obtain⟨cP0,cP1,cP2,cP3,fP0,fP1,fP2,fP3,sP⟩:=P4.open4
  by_cases hc0:c=0
  ·have dc:(c !=0)=false:=by rw[hc0];rfl
   have dc':(c==0)=true:=by rw[hc0];rfl
   have gd:rightB m' e'=true:=cls_right (d:=⟨n',m',e'⟩) (by rw[hc,hc0]) hz hm
   have HR:=Lib.hid (run_exp (w:=w4) (neg:=false) (Iv:=IvExp ⟨n',m',e'⟩) (p0:= .pointer (some ⟨b10,0,none⟩)) T4 h1 h2 h3 h4 d0 d3 (fun w' n hn1 hn2 hb'=>(exp1_n (x4.below hb') (T4.below hb') (by omega) (by omega) hb gd (by omega) (by omega) (D4.below hb')).mono (by
    rintro e w'' ⟨p1,k1,f1,p2,k2,f2,xx,yy,er,rfl,⟨rfl,k,ho⟩|⟨-,hbad⟩,hx',hy',hb''⟩
    ·exact⟨p1,k1,f1,p2,k2,f2,xx,yy,rfl,⟨⟨k,ho⟩,ho.bare⟩,hx',hy',hb''⟩
    ·exact absurd hbad (by omega))))
   have hcz:=Lib.hid (hc.trans hc0)
   clear hc
   subst hc0
   clear hz hm hm1 hm2 hms hb hs hs0 hf hk0 hfit gd hd
   go_wp2_with
    (first
      |(go_at_call 30;(with_reducible refine(HR.out).mono ?_);rintro e w5 ⟨l,b,f,st,tr,rfl,hpl,hrn,hb5⟩;have B5:=B4.trans (hb5.mono B4.size);have P5:=P4.below hb5;have R5:=R4.below hb5;clear P4 R4;obtain⟨cP0_5,cP1_5,cP2_5,cP3_5,fP0_5,fP1_5,fP2_5,fP3_5,sP_5⟩:=P5.open4;obtain⟨cR0_5,cR1_5,cR2_5,fR0_5,fR1_5,fR2_5,sR_5⟩:=R5.open3)
      |fail)
   obtain⟨z0,z1,z2,-⟩:=(R5.set3 (L64 b) (.int .u8 f) (.int .i64 st)).open3
   refine bodyPost_ret (v:= .tuple #[.agg #[L64 b,.int .u8 f,.int .i64 st],.int .i64 tr,.int .i64 0]) (by simp[results,Tryz.results11,go_sem,z0,z1,z2]) rfl ⟨b,f,st,tr,rfl,.inr ⟨hcz.out,l,hpl,hrn⟩,below_set3b B5 (by omega) _ _ _⟩
  ·have dc:(c !=0)=true:=by rw[bne_iff_ne];exact hc0
   have dc':(c==0)=false:=beq_false_of_ne hc0
   obtain⟨b,f,hr,-⟩:=res_true (d:=⟨n',m',e'⟩) (by rw[hc];exact hc0) d0 d3
   have hQ:=Lib.hid (show ExpRes ⟨n',m',e'⟩ fr pt dir b f 0 0 from .inl ⟨by rw[hc];exact hc0,hr,rfl,rfl⟩)
   rw[hc]at hr
   have HR:=Lib.hid (fun w (hT:Tab w)=>Result_n (w:=w) hT hr)
   clear hz hm hm1 hm2 hms hb hs hs0 hf hk0 hfit hd hr hc hc0 h1 h2 h3 h4 d0 d3
   go_wp2_with
    (first
      |(go_at_call 29;(with_reducible refine(HR.out _ T4).mono ?_);rintro e w5 ⟨rfl,hb5⟩;have B5:=B4.trans (hb5.mono B4.size);have T5:=T4.below hb5;have P5:=P4.below hb5;have R5:=R4.below hb5;clear T4 P4 R4;obtain⟨cP0_5,cP1_5,cP2_5,cP3_5,fP0_5,fP1_5,fP2_5,fP3_5,sP_5⟩:=P5.open4;obtain⟨cR0_5,cR1_5,cR2_5,fR0_5,fR1_5,fR2_5,sR_5⟩:=R5.open3)
      |fail)
   obtain⟨z0,z1,z2,-⟩:=(R5.set3 (L64 b) (.int .u8 f) (.int .i64 0)).open3
   refine bodyPost_ret (v:= .tuple #[.agg #[L64 b,.int .u8 f,.int .i64 0],.int .i64 0,.int .i64 0]) (by simp[results,Tryz.results11,go_sem,z0,z1,z2]) rfl ⟨b,f,0,0,rfl,hQ.out,below_set3b B5 (by omega) _ _ _⟩
theorem Blk.o1 {w:World}{b b':Nat}{c:Array Value}(h:Blk w b c) (hne:b≠b') (k:Nat) (v:Value):Blk (w.setCell ⟨b',k,none⟩ v) b c:=by
 obtain⟨h1,T,h2⟩:=h
 refine⟨by simpa[World.setCell]using h1,T,?_⟩
 rw[Below.heap_setCell _ _ _ _ (fun e=>hne e)]
 exact h2
theorem bel_s1 {D W:World}(h:Below D.heap.size D W) {b:Nat}(hb:D.heap.size≤b) (k:Nat) (v:Value):Below D.heap.size D (W.setCell ⟨b,k,none⟩ v):=h.setCell hb v
theorem Rd.s1 {w:World}{b:Nat}{v:Value}{xs:List Value}(h:Rd (fun g=>g≠b) w v xs) (k:Nat) (y:Value):Rd (fun g=>g≠b) (w.setCell ⟨b,k,none⟩ y) v xs:=
 h.keep ((Fr.refl (fun g=>g=b) w).setCell (p:=⟨b,k,none⟩) rfl y) (fun _ h=>h)
theorem Rd.bel1 {w w':World}{N:Nat→Prop}{v:Value}{xs:List Value}(h:Rd N w v xs) (hb:Below w.heap.size w w'):Rd N w' v xs:=h.below hb
theorem size_set1 {w:World}{p:Addr}{v:Value}:(w.setCell p v).heap.size=w.heap.size:=by simp[World.setCell]
theorem cells6o {w:World}{b:Nat}{x0 x1 x2 x3 x4 x5:Value}(h:Blk w b #[x0,x1,x2,x3,x4,x5]):w.cell? ⟨b,0,none⟩=some x0∧w.cell? ⟨b,1,none⟩=some x1∧w.cell? ⟨b,2,none⟩=some x2∧w.cell? ⟨b,3,none⟩=some x3∧w.cell? ⟨b,4,none⟩=some x4∧w.cell? ⟨b,5,none⟩=some x5:=
 ⟨h.open6.1,h.open6.2.1,h.open6.2.2.1,h.open6.2.2.2.1,h.open6.2.2.2.2.1,h.open6.2.2.2.2.2.1⟩
def SzR (neg:Bool) (d1 d2:Dn) (k:Int) (w:World) (e:Ending) (w':World):Prop:=
 ∃n3 m3 e3 n4 m4 e4 x y,e= .returned (.agg #[.bool n3,x,.int .i64 e3,.bool n4,y,.int .i64 e4])∧
   (qv ⟨n3,m3,e3⟩=(if neg then-qv d2 else qv d1)∧qv ⟨n4,m4,e4⟩=(if neg then-qv d1 else qv d2)∧(Mid k ⟨n3,m3,e3⟩∧bareD ⟨n3,m3,e3⟩=⟨n3,m3,e3⟩)∧Mid k ⟨n4,m4,e4⟩∧bareD ⟨n4,m4,e4⟩=⟨n4,m4,e4⟩)∧RdN w' x (digs BB m3)∧RdN w' y (digs BB m4)∧Below w.heap.size w w'
set_option maxHeartbeats 1000000 in
theorem lsz_n {w:World}{v u:Value}{n1 n2 neg:Bool}{m1 m2:Nat}{e1 e2 k:Int}(h:RdN w v (digs BB m1)) (h':RdN w u (digs BB m2)) (hT:Tab w) (a:Mid k ⟨n1,m1,e1⟩) (b:Mid k ⟨n2,m2,e2⟩) (hk:k≤1000000) (hk0:0≤k) (qa:bareD ⟨n1,m1,e1⟩=⟨n1,m1,e1⟩) (qb:bareD ⟨n2,m2,e2⟩=⟨n2,m2,e2⟩):
 Calls Tryz.prog 36 #[.agg #[.bool n1,v,.int .i64 e1,.bool n2,u,.int .i64 e2],.bool neg] w (SzR neg ⟨n1,m1,e1⟩ ⟨n2,m2,e2⟩ k w):=by
 obtain⟨av,kv,rfl,-,-,-,-⟩:=h.view
 obtain⟨au,ku,rfl,-,-,-,-⟩:=h'.view
 have sa:=a.bits;have sb:=b.bits
 dsimp only at sa sb
 cases neg
 ·have hQ:=Lib.hid (And.intro (And.intro a qa) (And.intro b qb))
  clear a b qa qb sa sb hk hk0
  have x0:=h.below (below_2 (o1:= .cells #[.bool n1,.slice av (digs BB m1).length kv,.int .i64 e1,.bool n2,.slice au (digs BB m2).length ku,.int .i64 e2] 70 (0,0)) (o2:= .cells #[.bool false,.slice none 0 0,.int .i64 0,.bool false,.slice none 0 0,.int .i64 0] 70 (0,0)))
  have y0:=h'.below (below_2 (o1:= .cells #[.bool n1,.slice av (digs BB m1).length kv,.int .i64 e1,.bool n2,.slice au (digs BB m2).length ku,.int .i64 e2] 70 (0,0)) (o2:= .cells #[.bool false,.slice none 0 0,.int .i64 0,.bool false,.slice none 0 0,.int .i64 0] 70 (0,0)))
  have B0:=below_2 (w:=w) (o1:= .cells #[.bool n1,.slice av (digs BB m1).length kv,.int .i64 e1,.bool n2,.slice au (digs BB m2).length ku,.int .i64 e2] 70 (0,0)) (o2:= .cells #[.bool false,.slice none 0 0,.int .i64 0,.bool false,.slice none 0 0,.int .i64 0] 70 (0,0))
  have P0:=blk_a1 (w:=w) (T:=70) (o:= .cells #[.bool false,.slice none 0 0,.int .i64 0,.bool false,.slice none 0 0,.int .i64 0] 70 (0,0)) (c:= #[.bool n1,.slice av (digs BB m1).length kv,.int .i64 e1,.bool n2,.slice au (digs BB m2).length ku,.int .i64 e2])
  have R0:=blk_a2 (w:=w) (T:=70) (o:= .cells #[.bool n1,.slice av (digs BB m1).length kv,.int .i64 e1,.bool n2,.slice au (digs BB m2).length ku,.int .i64 e2] 70 (0,0)) (c:= #[.bool false,.slice none 0 0,.int .i64 0,.bool false,.slice none 0 0,.int .i64 0])
  go_enter Tryz.func36,Tryz.ntmps36
  go_upto_region 3 with fail
  generalize (w.alloc (.cells #[.bool n1,.slice av (digs BB m1).length kv,.int .i64 e1,.bool n2,.slice au (digs BB m2).length ku,.int .i64 e2] 70 (0,0))).alloc (.cells #[.bool false,.slice none 0 0,.int .i64 0,.bool false,.slice none 0 0,.int .i64 0] 70 (0,0))=w1 at*
  obtain⟨cP0,cP1,cP2,cP3,cP4,cP5,fP0,fP1,fP2,fP3,fP4,fP5,sP⟩:=P0.open6
  obtain⟨cR0,cR1,cR2,cR3,cR4,cR5,fR0,fR1,fR2,fR3,fR4,fR5,sR⟩:=R0.open6
  go_wp2_with fail
  obtain⟨z0,z1,z2,z3,z4,z5,-⟩:=(R0.set6 (.bool n1) (.slice av (digs BB m1).length kv) (.int .i64 e1) (.bool n2) (.slice au (digs BB m2).length ku) (.int .i64 e2)).open6
  refine bodyPost_ret (v:= .agg #[.bool n1,.slice av (digs BB m1).length kv,.int .i64 e1,.bool n2,.slice au (digs BB m2).length ku,.int .i64 e2]) (by simp[results,Tryz.results36,go_sem,z0,z1,z2,z3,z4,z5]) rfl ?_
  unfold SzR
  exact⟨n1,m1,e1,n2,m2,e2,_,_,rfl,⟨rfl,rfl,hQ.out⟩,x0.set6 R0 dcells6 _ _ _ _ _ _,y0.set6 R0 dcells6 _ _ _ _ _ _,below_set6 B0 (by omega) _ _ _ _ _ _⟩
 ·have x0:=h.below (below_2 (o1:= .cells #[.bool n1,.slice av (digs BB m1).length kv,.int .i64 e1,.bool n2,.slice au (digs BB m2).length ku,.int .i64 e2] 70 (0,0)) (o2:= .cells #[.bool false,.slice none 0 0,.int .i64 0,.bool false,.slice none 0 0,.int .i64 0] 70 (0,0)))
  have y0:=h'.below (below_2 (o1:= .cells #[.bool n1,.slice av (digs BB m1).length kv,.int .i64 e1,.bool n2,.slice au (digs BB m2).length ku,.int .i64 e2] 70 (0,0)) (o2:= .cells #[.bool false,.slice none 0 0,.int .i64 0,.bool false,.slice none 0 0,.int .i64 0] 70 (0,0)))
  have T0:=hT.below (below_2 (o1:= .cells #[.bool n1,.slice av (digs BB m1).length kv,.int .i64 e1,.bool n2,.slice au (digs BB m2).length ku,.int .i64 e2] 70 (0,0)) (o2:= .cells #[.bool false,.slice none 0 0,.int .i64 0,.bool false,.slice none 0 0,.int .i64 0] 70 (0,0)))
  have B0:=below_2 (w:=w) (o1:= .cells #[.bool n1,.slice av (digs BB m1).length kv,.int .i64 e1,.bool n2,.slice au (digs BB m2).length ku,.int .i64 e2] 70 (0,0)) (o2:= .cells #[.bool false,.slice none 0 0,.int .i64 0,.bool false,.slice none 0 0,.int .i64 0] 70 (0,0))
  have P0:=blk_a1 (w:=w) (T:=70) (o:= .cells #[.bool false,.slice none 0 0,.int .i64 0,.bool false,.slice none 0 0,.int .i64 0] 70 (0,0)) (c:= #[.bool n1,.slice av (digs BB m1).length kv,.int .i64 e1,.bool n2,.slice au (digs BB m2).length ku,.int .i64 e2])
  have R0:=blk_a2 (w:=w) (T:=70) (o:= .cells #[.bool n1,.slice av (digs BB m1).length kv,.int .i64 e1,.bool n2,.slice au (digs BB m2).length ku,.int .i64 e2] 70 (0,0)) (c:= #[.bool false,.slice none 0 0,.int .i64 0,.bool false,.slice none 0 0,.int .i64 0])
  go_enter Tryz.func36,Tryz.ntmps36
  go_upto_region 2 with fail
  generalize (w.alloc (.cells #[.bool n1,.slice av (digs BB m1).length kv,.int .i64 e1,.bool n2,.slice au (digs BB m2).length ku,.int .i64 e2] 70 (0,0))).alloc (.cells #[.bool false,.slice none 0 0,.int .i64 0,.bool false,.slice none 0 0,.int .i64 0] 70 (0,0))=w1 at*
  have hl1:w.heap.size<w1.heap.size:=P0.1
  have HM1:=Lib.hid (fun w' (hb:Below w1.heap.size w1 w')=>Minus_v ((x0.below hb).num (by omega)) (T0.below hb) a hk hk0)
  have HM2:=Lib.hid (fun w' (hb:Below w1.heap.size w1 w')=>Minus_v ((y0.below hb).num (by omega)) (T0.below hb) b hk hk0)
  go_region_held3 (fun w'=>w'.cell? ⟨w.heap.size,0,none⟩=some (.bool n1)∧w'.cell? ⟨w.heap.size,1,none⟩=some (.slice av (digs BB m1).length kv)∧w'.cell? ⟨w.heap.size,2,none⟩=some (.int .i64 e1)∧w'.cell? ⟨w.heap.size,3,none⟩=some (.bool n2)∧w'.cell? ⟨w.heap.size,4,none⟩=some (.slice au (digs BB m2).length ku)∧w'.cell? ⟨w.heap.size,5,none⟩=some (.int .i64 e2))
   (refine cells6o ?_<;>(repeat' (first|with_reducible assumption|with_reducible exact blk_new|with_reducible exact blk_a2|with_reducible exact Below.refl _ _|with_reducible refine Blk.o1 ?_ ?_ _ _|with_reducible refine Blk.below ?_ hbx|with_reducible refine Blk.below ?_ hby|with_reducible refine Blk.next ?_|with_reducible refine Blk.dr ?_|with_reducible refine bel_dr ?_|with_reducible refine bel_s1 ?_ ?_ _ _|with_reducible refine bel_trans ?_ hbx|with_reducible refine bel_trans ?_ hby|with_reducible refine bel_next ?_|with_reducible refine Rd.s1 ?_ _ _|with_reducible refine Rd.bel1 ?_ hbx|with_reducible refine Rd.bel1 ?_ hby|with_reducible refine RdN.below ?_ hbx|with_reducible refine RdN.below ?_ hby|with_reducible refine RdN.below ?_ (below_alloc _ _)|((try simp only[size_alloc,size_drew,size_set1]);omega))))
   (first
     |(go_at_call 52;(with_reducible refine(HM1.out _ ?hbel).mono ?_);(case hbel=>(repeat' (first|with_reducible assumption|with_reducible exact blk_new|with_reducible exact blk_a2|with_reducible exact Below.refl _ _|with_reducible refine Blk.o1 ?_ ?_ _ _|with_reducible refine Blk.below ?_ hby|with_reducible refine Blk.next ?_|with_reducible refine Blk.dr ?_|with_reducible refine bel_dr ?_|with_reducible refine bel_s1 ?_ ?_ _ _|with_reducible refine bel_trans ?_ hby|with_reducible refine bel_next ?_|with_reducible refine Rd.s1 ?_ _ _|with_reducible refine Rd.bel1 ?_ hby|with_reducible refine RdN.below ?_ hby|with_reducible refine RdN.below ?_ (below_alloc _ _)|((try simp only[size_alloc,size_drew,size_set1]);omega))));rintro e wx ⟨n3,m3,e3,vx,rfl,hx,rx,hbx⟩;obtain⟨ax,kx,rfl,-⟩:=rx.view;(first|(have Rf:=Ry.below hbx;have ro:=Rf.open6)|(have Rx:=R0.dr.below hbx;have ro:=Rx.open6)))
     |(go_at_call 52;(with_reducible refine(HM2.out _ ?hbel).mono ?_);(case hbel=>(repeat' (first|with_reducible assumption|with_reducible exact blk_new|with_reducible exact blk_a2|with_reducible exact Below.refl _ _|with_reducible refine Blk.o1 ?_ ?_ _ _|with_reducible refine Blk.below ?_ hbx|with_reducible refine Blk.next ?_|with_reducible refine Blk.dr ?_|with_reducible refine bel_dr ?_|with_reducible refine bel_s1 ?_ ?_ _ _|with_reducible refine bel_trans ?_ hbx|with_reducible refine bel_next ?_|with_reducible refine Rd.s1 ?_ _ _|with_reducible refine Rd.bel1 ?_ hbx|with_reducible refine RdN.below ?_ hbx|with_reducible refine RdN.below ?_ (below_alloc _ _)|((try simp only[size_alloc,size_drew,size_set1]);omega))));rintro e wy ⟨n4,m4,e4,vy,rfl,hy,ry,hby⟩;obtain⟨ay,ky,rfl,-⟩:=ry.view;(first|(have Rf:=Rx.below hby;have ro:=Rf.open6)|(have Ry:=R0.dr.below hby;have ro:=Ry.open6)))
     |fail)
  go_wp2_with fail
  have RF:=R0.dr.below hby
  have RG:=RF.below hbx
  have X2:RdN wx (.slice ay (digs BB m4).length ky) (digs BB m4):=ry.below hbx
  have B2:Below w.heap.size w wx:=((below_drewN B0 1).trans (hby.mono (below_drewN B0 1).size)).trans (hbx.mono (Nat.le_trans (below_drewN B0 1).size hby.size))
  have Z:=X2.set6 RG dcells6 (.bool n4) (.slice ay (digs BB m4).length ky) (.int .i64 e4) (.bool n3) (.slice ax (digs BB m3).length kx) (.int .i64 e3)
  have Y:=rx.set6 RG dcells6 (.bool n4) (.slice ay (digs BB m4).length ky) (.int .i64 e4) (.bool n3) (.slice ax (digs BB m3).length kx) (.int .i64 e3)
  have BZ:=below_set6 B2 (show w.heap.size≤w.heap.size+1 by omega) (.bool n4) (.slice ay (digs BB m4).length ky) (.int .i64 e4) (.bool n3) (.slice ax (digs BB m3).length kx) (.int .i64 e3)
  obtain⟨z0,z1,z2,z3,z4,z5,-⟩:=(RG.set6 (.bool n4) (.slice ay (digs BB m4).length ky) (.int .i64 e4) (.bool n3) (.slice ax (digs BB m3).length kx) (.int .i64 e3)).open6
  refine bodyPost_ret (v:= .agg #[.bool n4,.slice ay (digs BB m4).length ky,.int .i64 e4,.bool n3,.slice ax (digs BB m3).length kx,.int .i64 e3]) (by simp[results,Tryz.results36,go_sem,z0,z1,z2,z3,z4,z5]) rfl ?_
  unfold SzR
  exact⟨n4,m4,e4,n3,m3,e3,_,_,rfl,⟨hy.1,hx.1,hy.2,hx.2⟩,Z,Y,BZ⟩
end Go.Proofs.YtffaefjkpipjnaaGreatDoor
