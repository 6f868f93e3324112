/- Where exp of a class' logarithm is: plainly. Conditions: none. -/
import Derived.Test.YtffaefjkpipjnaaGreatDoorPkB16
import Derived.Test.YtffaefjkpipjnaaGreatDoorPkB23
import Derived.Test.YtffaefjkpipjnaaGreatDoorPkB19
import Derived.Test.YtffaefjkpipjnaaGreatDoorPkB05
import Derived.Test.YtffaefjkpipjnaaGreatDoorPkB14
import Derived.Test.YtffaefjkpipjnaaGreatDoorPkB12
import Derived.Test.YtffaefjkpipjnaaGreatDoorPkB22
namespace Go.Proofs.YtffaefjkpipjnaaGreatDoor
set_option maxRecDepth 100000
set_option linter.unusedVariables false
theorem ln2_fine:∃l h:Rat,LnIn 2 l h∧h≤69318/100000:=by
 refine⟨_,_,ln_two_ref 20,?_⟩
 have h1:refAt 1 3 (2^20) (20/3+2)+8≤363425:=by decide+kernel
 have h2:=Rat.mul_le_mul_of_nonneg_right (rq_le h1) (show(0:Rat)≤2*pw (-((20:Nat):Int))from Rat.mul_nonneg (by decide) (Rat.le_of_lt (pw_pos _)))
 have h3:=pw_unit 20
 have e20:((2^20:Nat):Rat)=1048576:=by decide+kernel
 rw[e20]at h3
 have e36:((363425:Nat):Rat)=363425:=rfl
 rw[e36]at h2
 generalize pw (-((20:Nat):Int))=p at*
 generalize ((refAt 1 3 (2^20) (20/3+2)+8:Nat):Rat)=r at*
 have h4:p=1/1048576:=by grind
 rw[h4]at h2⊢
 grind
theorem pw_exp {n:Nat}{q:Rat}(h:(n:Rat)*(69318/100000)+1/10≤q):XL (-q) (pw (n:Int)*(11/10)) 1:=by
 obtain⟨l,u,k,hu⟩:=ln2_fine
 have kp:=(k.pow n).hi
 rw[pow_two]at kp
 have k2:=kp.mul (XL.neg_lin (q:=1/10) (by decide+kernel))
 rw[Rat.mul_one,show(1:Rat)+1/10=11/10 by decide+kernel]at k2
 refine k2.mono ?_
 have:=Rat.mul_le_mul_of_nonneg_left hu (rq_nat_nonneg n)
 grind
theorem tiny_175:pw (-175)*40≤pw (-60)∧pw (-60)*64=pw (-54)∧pw (-60)*128=pw (-53)∧pw (-60)≤1/1000000∧0<pw (-175):=by
 have a1:pw (-60)*pw 6=pw (-54):=by rw[←pw_add];rfl
 have a2:pw (-60)*pw 7=pw (-53):=by rw[←pw_add];rfl
 have a3:pw (-175)*pw 115=pw (-60):=by rw[←pw_add];rfl
 have b1:pw 6=64:=by have:=pw_nat 6;rw[show((6:Nat):Int)=6 from rfl]at this;rw[this];decide+kernel
 have b2:pw 7=128:=by have:=pw_nat 7;rw[show((7:Nat):Int)=7 from rfl]at this;rw[this];decide+kernel
 have b3:40≤pw 115:=by have:=pw_nat 115;rw[show((115:Nat):Int)=115 from rfl]at this;rw[this];decide+kernel
 rw[b1]at a1
 rw[b2]at a2
 have hp:=pw_pos (-175)
 have h3:=Rat.mul_le_mul_of_nonneg_left b3 (Rat.le_of_lt hp)
 refine⟨by grind,a1,a2,?_,hp⟩
 have c1:pw (-60)*pw 60=1:=by rw[←pw_add];rfl
 have c2:1000000≤pw 60:=by have:=pw_nat 60;rw[show((60:Nat):Int)=60 from rfl]at this;rw[this];decide+kernel
 have h4:=Rat.mul_le_mul_of_nonneg_left c2 (Rat.le_of_lt (pw_pos (-60)))
 grind
section
variable {d lo hi:Dn}{k:Int}(o:ExpV d lo hi 200 k) (v1: -1024<qv d) (v2:qv d<1024)
include o v1 v2
end
end Go.Proofs.YtffaefjkpipjnaaGreatDoor
namespace Go.Proofs.YtffaefjkpipjnaaGreatDoor
set_option maxRecDepth 100000
open Go.RowKit
set_option linter.unusedVariables false
theorem upB_zero (n:Bool):upB 0 n=false:=by cases n<;>rfl
theorem hb_le (h:Bool):hb h≤1:=by cases h<;>decide
theorem round_above {n more:Bool}{M:Nat}{E dir:Int}(h1:1<(M:Rat)*pw E) (h2:(M:Rat)*pw E<1+pw (-53)):toB n M E more dir=(signedB (moreB dir n) n,1):=by
 have p53:pw (-53)*pw 53=1:=by rw[←pw_add];rfl
 have e53:pw 53=((9007199254740992:Nat):Rat):=pw_nat 53
 have q53:pw (-53)≤1:=by have:=pw_mono (show(-53:Int)≤0 by decide);rw[pw_zero]at this;exact this
 have e1:pw (0+1)=2:=pw_one
 have ht:topD ⟨n,M,E⟩=0:=top_val (by rw[pw_zero];exact Rat.le_of_lt h1) (by rw[e1];grind)
 obtain⟨q,h,b,hp⟩:∃q h b,partsP M E (-52)=(q,h,b):=⟨_,_,_,rfl⟩
 obtain⟨a1,a2,a3,a4⟩:=parts_val hp
 rw[show(1:Int)- -52=53 by decide]at a1 a2 a3 a4
 have hp53:=pw_pos 53
 have b1:=Rat.mul_lt_mul_of_pos_right h1 hp53
 have b2:=Rat.mul_lt_mul_of_pos_right h2 hp53
 rw[Rat.one_mul]at b1
 rw[Rat.add_mul,Rat.one_mul,p53]at b2
 rw[e53]at b1 b2 a1 a2 a3 a4
 have hT:2*q+hb h=9007199254740992:=by
  have c1:((9007199254740992:Nat):Rat)<((2*q+hb h+1:Nat):Rat):=by rw[Rat.natCast_add];show _<_+(1:Rat);grind
  have c2:((2*q+hb h:Nat):Rat)<((9007199254740992+1:Nat):Rat):=by rw[Rat.natCast_add 9007199254740992 1];show _<_+(1:Rat);grind
  have:=Rat.natCast_lt_natCast.1 c1
  have:=Rat.natCast_lt_natCast.1 c2
  omega
 have hh:=hb_le h
 have hq:q=4503599627370496:=by omega
 obtain rfl:h=false:=by
  cases h
  ·rfl
  ·have:hb true=1:=rfl
   omega
 obtain rfl:b=true:=by
  cases b
  ·have:=a3 rfl
   rw[this,hT]at b1
   exfalso;grind
  ·rfl
 have hu:unitB 0= -52:=by decide
 have hw:wholeP n M E more dir (-52)=(if upB dir n then 4503599627370497 else 4503599627370496,true):=by
  unfold wholeP
  rw[hp]
  dsimp only
  rw[hq]
  unfold awayB
  by_cases hd:dir=0
  ·rw[hd,if_pos rfl,upB_zero];rfl
  ·rw[if_neg hd]
   cases upB dir n<;>rfl
 unfold toB
 rw[ht,if_neg (by decide),if_neg (by decide)]
 unfold flagB sizeB moreB
 rw[ht,hu,hw]
 cases upB dir n<;>rfl
theorem round_below {n more:Bool}{M:Nat}{E dir:Int}(h1:1-pw (-54)<(M:Rat)*pw E) (h2:(M:Rat)*pw E<1):toB n M E more dir=(signedB (lessB dir n) n,1):=by
 have p54:pw (-54)*pw 54=1:=by rw[←pw_add];rfl
 have e54:pw 54=((18014398509481984:Nat):Rat):=pw_nat 54
 have q54:pw (-54)≤pw (-1):=pw_mono (by decide)
 have q1:pw (-1)*2=1:=by have:=pw_neg 1;rw[pw_one]at this;exact this
 have ht:topD ⟨n,M,E⟩= -1:=top_val (by grind) (by rw[show(-1:Int)+1=0 by decide,pw_zero];exact h2)
 obtain⟨q,h,b,hp⟩:∃q h b,partsP M E (-53)=(q,h,b):=⟨_,_,_,rfl⟩
 obtain⟨a1,a2,a3,a4⟩:=parts_val hp
 rw[show(1:Int)- -53=54 by decide]at a1 a2 a3 a4
 have hp54:=pw_pos 54
 have b1:=Rat.mul_lt_mul_of_pos_right h1 hp54
 have b2:=Rat.mul_lt_mul_of_pos_right h2 hp54
 rw[Rat.one_mul]at b2
 rw[show(1-pw (-54))*pw 54=pw 54-1 by grind]at b1
 rw[e54]at b1 b2 a1 a2 a3 a4
 have hT:2*q+hb h+1=18014398509481984:=by
  have c1:((18014398509481984:Nat):Rat)<((2*q+hb h+1+1:Nat):Rat):=by rw[Rat.natCast_add,Rat.natCast_add];show _<_+(1:Rat)+(1:Rat);grind
  have c2:((2*q+hb h:Nat):Rat)<((18014398509481984:Nat):Rat):=by grind
  have:=Rat.natCast_lt_natCast.1 c1
  have:=Rat.natCast_lt_natCast.1 c2
  omega
 have hh:=hb_le h
 have hq:q=9007199254740991:=by omega
 obtain rfl:h=true:=by
  cases h
  ·have:hb false=0:=rfl
   omega
  ·rfl
 obtain rfl:b=true:=by
  cases b
  ·have h3:=a3 rfl
   rw[h3]at b1
   have c3:((18014398509481984:Nat):Rat)=((2*q+hb true:Nat):Rat)+1:=by rw[←hT,Rat.natCast_add];rfl
   exfalso;grind
  ·rfl
 have hu:unitB (-1)= -53:=by decide
 have hw:wholeP n M E more dir (-53)=(if decide (dir=0)||upB dir n then 9007199254740992 else 9007199254740991,true):=by
  unfold wholeP
  rw[hp]
  dsimp only
  rw[hq]
  unfold awayB
  by_cases hd:dir=0
  ·rw[hd,if_pos rfl,decide_eq_true rfl,Bool.true_or];rfl
  ·rw[if_neg hd,decide_eq_false hd,Bool.false_or]
   cases upB dir n<;>rfl
 unfold toB
 rw[ht,if_neg (by decide),if_neg (by decide)]
 unfold flagB sizeB lessB
 rw[ht,hu,hw]
 cases(decide (dir=0)||upB dir n)<;>rfl
theorem round_over {n more:Bool}{M:Nat}{E dir:Int}(h:pw 1024≤(M:Rat)*pw E):toB n M E more dir=(overB n dir,5):=by
 unfold toB
 rw[if_pos (by have:=(top_ge (n:=n) h).1;omega)]
theorem round_under {n more:Bool}{M:Nat}{E dir:Int}(h0:M≠0) (h:(M:Rat)*pw E<pw (-1075)):toB n M E more dir=(underB n dir,3):=by
 have:=top_lt (n:=n) h0 h
 unfold toB
 rw[if_neg (by omega),if_pos this]
end Go.Proofs.YtffaefjkpipjnaaGreatDoor
namespace Go.Proofs.YtffaefjkpipjnaaGreatDoor
set_option maxRecDepth 100000
open Go.RowKit
set_option linter.unusedVariables false
theorem class_val {d:Dn}{s ca cb cn co k:Int}(hs:signD d=s) (hca:cmpD d ⟨false,355,1⟩=ca) (hcb:cmpD d ⟨true,373,1⟩=cb) (hcn:cmpD d ⟨false,1,-60⟩=cn) (hco:cmpD d ⟨true,1,-60⟩=co) (hk:ofB s true ca cb cn co=k):
 (k=0)∨(k=1∧710≤qv d)∨(k=2∧qv d≤-746)∨(k=3∧0<qv d∧qv d<pw (-60))∨(k=4∧qv d<0∧-pw (-60)<qv d):=by
 have e1:qv ⟨false,355,1⟩=710:=by rw[qv_pos,pw_one];decide+kernel
 have e2:qv ⟨true,373,1⟩= -746:=by rw[qv_neg,pw_one];decide+kernel
 have e3:qv ⟨false,1,-60⟩=pw (-60):=by rw[qv_pos];exact Rat.one_mul _
 have e4:qv ⟨true,1,-60⟩= -pw (-60):=by
  rw[qv_neg]
  have:((1:Nat):Rat)*pw (-60)=pw (-60):=Rat.one_mul _
  rw[this]
 have c1:=cmpD_val d ⟨false,355,1⟩
 have c2:=cmpD_val d ⟨true,373,1⟩
 have c3:=cmpD_val d ⟨false,1,-60⟩
 have c4:=cmpD_val d ⟨true,1,-60⟩
 have c5:=signD_val d
 rw[hca,e1]at c1
 rw[hcb,e2]at c2
 rw[hcn,e3]at c3
 rw[hco,e4]at c4
 rw[hs]at c5
 unfold ofB at hk
 split at hk
 ·exact .inl hk.symm
 split at hk
 ·refine .inr (.inl ⟨hk.symm,?_⟩)
  rename_i h
  rcases c1 with⟨_,c⟩|⟨c,_⟩|⟨c,_⟩
  ·omega
  ·grind
  ·grind
 split at hk
 ·refine .inr (.inr (.inl ⟨hk.symm,?_⟩))
  rename_i h
  rcases c2 with⟨c,_⟩|⟨c,_⟩|⟨_,c⟩
  ·grind
  ·grind
  ·omega
 split at hk
 ·refine .inr (.inr (.inr (.inl ⟨hk.symm,?_⟩)))
  rename_i h
  constructor
  ·rcases c5 with⟨_,c⟩|⟨_,c⟩|⟨c,_⟩
   ·omega
   ·omega
   ·exact c
  ·rcases c3 with⟨c,_⟩|⟨_,c⟩|⟨_,c⟩
   ·exact c
   ·omega
   ·omega
 split at hk
 ·refine .inr (.inr (.inr (.inr ⟨hk.symm,?_⟩)))
  rename_i h
  constructor
  ·rcases c5 with⟨c,_⟩|⟨_,c⟩|⟨_,c⟩
   ·exact c
   ·omega
   ·omega
  ·rcases c4 with⟨_,c⟩|⟨_,c⟩|⟨c,_⟩
   ·omega
   ·omega
   ·exact c
 ·exact .inl hk.symm
end Go.Proofs.YtffaefjkpipjnaaGreatDoor

namespace Go.Proofs.YtffaefjkpipjnaaGreatDoor
set_option linter.unusedVariables false
set_option linter.unusedSimpArgs false
set_option maxRecDepth 100000
open Go.RowKit Go.ChangeShapes Go.WideShapes
theorem lit1b {w:World}{T:TypeId}{n:Nat}{o:Obj}(h:Hid (n<BB)):Num ((w.alloc o).alloc (.cells #[.int .u64 (n:Int)] T (0,0))) (.slice (some ⟨w.heap.size+1,0,none⟩) 1 1) n:=by
 have h1:RdN ((w.alloc o).alloc (.cells #[.int .u64 (n:Int)] T (0,0))) (.slice (some ⟨w.heap.size+1,0,none⟩) 1 1) [n]:=rd_one (heap_new2 _ _ _) trivial
 exact RdN.num1 h1 h.out
theorem or_52 (x:Nat) (hx:x<4503599627370496):bits .or .u64 (x:Int) 4503599627370496=((x+4503599627370496:Nat):Int):=by
 have:=(bits_nat .u64 64 (by decide) (fun n h0 h1=>by rw[IntKind.wrap_u64];omega) x 4503599627370496 (by omega) (by decide)).2
 rw[show((4503599627370496:Nat):Int)=4503599627370496 from rfl]at this
 rw[this]
 have h:=Nat.two_pow_add_eq_or_of_lt (i:=52) (b:=x) (by omega) 1
 rw[show 2^52*1=4503599627370496 by decide]at h
 rw[Nat.or_comm,←h,Nat.add_comm]
theorem fdyad_no {w:World}{b:Nat}(hb:b<18446744073709551616) (hf:¬fldN b<2047):Calls Tryz.prog 23 #[L64 b] w (fun e w'=>e= .returned (.tuple #[.agg #[.bool false,.slice none 0 0,.int .i64 0],.bool false])∧Below w.heap.size w w'):=by
 have HF:=Lib.hid (fun w=>finite_n (w:=w) hb)
 rw[decide_eq_false hf]at HF
 clear hf hb
 go_enter Tryz.func23,Tryz.ntmps23
 go_wp2_with
  (first
    |(go_at_call 45;(with_reducible refine(HF.out _).mono ?_);rintro e w1 ⟨rfl,rfl⟩)
    |fail)
 obtain⟨z0,z1,z2,-⟩:=(blk_new (w:=w) (c:= #[.bool false,.slice none 0 0,.int .i64 0]) (T:=63)).open3
 refine bodyPost_ret (v:= .tuple #[.agg #[.bool false,.slice none 0 0,.int .i64 0],.bool false]) (by simp[results,Tryz.results23,go_sem,z0,z1,z2]) rfl ⟨rfl,below_alloc _ _⟩
set_option maxHeartbeats 1000000 in
theorem fdyad_n {w:World}{b m':Nat}{n':Bool}{e':Int}(hb:b<18446744073709551616) (hT:Tab w) (hf:fldN b<2047) (hd:dyB b=⟨n',m',e'⟩):Calls Tryz.prog 23 #[L64 b] w (fun e w'=>∃v,e= .returned (.tuple #[.agg #[.bool n',v,.int .i64 e'],.bool true])∧RdN w' v (digs BB m')∧Below w.heap.size w w'):=by
 have HF:=Lib.hid (fun w=>finite_n (w:=w) hb)
 rw[decide_eq_true hf]at HF
 have HE:=Lib.hid (fun w=>field_n (w:=w) hb)
 have HN:=Lib.hid (fun w=>fneg_n (w:=w) hb)
 have ha:=and_52 b hb
 have ho:=or_52 (frcN b) (by unfold frcN;omega)
 unfold dyB at hd
 have hm:mntN b<9007199254740992:=by unfold mntN frcN;split<;>omega
 have hmB:bitN (mntN b)≤53:=bitN_le.2 (by rw[show(2:Nat)^53=9007199254740992 by decide];exact hm)
 have he1: -1075≤expN b:=by unfold expN;omega
 have he2:expN b≤1000:=by unfold expN;omega
 obtain⟨f1,r1,r2⟩:=bareD_fits hd (by omega) (by omega) (by omega)
 have HM:=Lib.hid (fun w v (h:Num w v (mntN b)) (hT:Tab w)=>Make_ok h hT (by omega) (by omega) hd f1)
 obtain⟨M,hM⟩:∃M,mntN b=M:=⟨_,rfl⟩
 obtain⟨E,hE⟩:∃E,expN b=E:=⟨_,rfl⟩
 obtain⟨N,hN⟩:∃N,negN b=N:=⟨_,rfl⟩
 obtain⟨g,hg⟩:∃g,frcN b=g:=⟨_,rfl⟩
 obtain⟨f,hff⟩:∃f,fldN b=f:=⟨_,rfl⟩
 have hg':=hg
 unfold frcN at hg'
 rw[hg']at ha
 rw[hg]at ho
 rw[hM,hE,hN]at HM
 rw[hN]at HN
 rw[hff]at HE
 rw[hM]at hm
 unfold mntN at hM
 unfold expN at hE
 rw[hff]at hM hE hf
 rw[hg]at hM
 have hBB:M<BB:=by rw[show BB=18446744073709551616 from rfl];omega
 replace hBB:=Lib.hid hBB
 clear hd hmB he1 he2 f1 r1 r2 hg hg' hff hN hb
 by_cases c:0<f
 ·have d1:decide ((0:Int)<(f:Int))=true:=decide_eq_true (by omega)
  have d2:decide (0<f)=true:=decide_eq_true c
  rw[if_pos c]at hM
  have hx:max (f:Int) 1=(f:Int):=by omega
  rw[hx]at hE
  have hw:IntKind.i64.wrap ((f:Int)-1075)=E:=by rw[IntKind.wrap_i64];omega
  have hmx:(if(1:Int)≤(f:Int)then(f:Int)else 1)=(f:Int):=if_pos (by omega)
  rw[hM]at ho
  clear hM hE hm
  go_enter Tryz.func23,Tryz.ntmps23
  go_wp2_with
   (first
     |(go_at_call 45;(with_reducible refine(HF.out _).mono ?_);rintro e w1 ⟨rfl,rfl⟩)
     |(go_at_call 46;(with_reducible refine(HE.out _).mono ?_);rintro e w2 ⟨rfl,rfl⟩)
     |(go_at_call 24;(with_reducible refine(HN.out _).mono ?_);rintro e w3 ⟨rfl,rfl⟩)
     |(go_at_call 47;(with_reducible refine(HM.out _ _ (lit1b hBB) (((hT.below (below_alloc _ _))).below (below_alloc _ _))).mono ?_);rintro e w4 ⟨vx4,rfl,x4,hb4⟩;have hb4':=(below_a hb4);have B4:=(below_alloc _ _).trans (hb4'.mono (below_alloc _ _).size);have T4:=((hT.below (below_alloc _ _))).below hb4';have R4:=((blk_new)).below hb4';obtain⟨cR0_4,cR1_4,cR2_4,fR0_4,fR1_4,fR2_4,sR_4⟩:=R4.open3;obtain⟨ax4,kx4,rfl,-⟩:=x4.view;try simp only[List.length_nil]at x4)
     |fail)
  have Z:=(R4.set3 (.bool n') (.slice ax4 (digs BB m').length kx4) (.int .i64 e')).below (below_alloc _ (.cells #[.bool n',.slice ax4 (digs BB m').length kx4,.int .i64 e'] 63))
  obtain⟨z0,z1,z2,-⟩:=Z.open3
  have hBz:=below_set3 B4 (Nat.le_refl _) (.bool n') (.slice ax4 (digs BB m').length kx4) (.int .i64 e')
  refine bodyPost_ret (v:= .tuple #[.agg #[.bool n',.slice ax4 (digs BB m').length kx4,.int .i64 e'],.bool true]) (by simp[results,Tryz.results23,go_sem,z0,z1,z2]) rfl ⟨_,rfl,(x4.set3 R4 dcells _ _ _).below (below_alloc _ _),hBz.trans ((below_alloc _ _).mono hBz.size)⟩
 ·obtain rfl:f=0:=by omega
  rw[if_neg c]at hM
  subst hM
  have hw:(max (0:Int) 1-1075)=E:=by simpa using hE
  clear hE hm c
  go_enter Tryz.func23,Tryz.ntmps23
  go_wp2_with
   (first
     |(go_at_call 45;(with_reducible refine(HF.out _).mono ?_);rintro e w1 ⟨rfl,rfl⟩)
     |(go_at_call 46;(with_reducible refine(HE.out _).mono ?_);rintro e w2 ⟨rfl,rfl⟩)
     |(go_at_call 24;(with_reducible refine(HN.out _).mono ?_);rintro e w3 ⟨rfl,rfl⟩)
     |(go_at_call 47;(with_reducible refine(HM.out _ _ (lit1b hBB) (((hT.below (below_alloc _ _))).below (below_alloc _ _))).mono ?_);rintro e w4 ⟨vx4,rfl,x4,hb4⟩;have hb4':=(below_a hb4);have B4:=(below_alloc _ _).trans (hb4'.mono (below_alloc _ _).size);have T4:=((hT.below (below_alloc _ _))).below hb4';have R4:=((blk_new)).below hb4';obtain⟨cR0_4,cR1_4,cR2_4,fR0_4,fR1_4,fR2_4,sR_4⟩:=R4.open3;obtain⟨ax4,kx4,rfl,-⟩:=x4.view;try simp only[List.length_nil]at x4)
     |fail)
  have Z:=(R4.set3 (.bool n') (.slice ax4 (digs BB m').length kx4) (.int .i64 e')).below (below_alloc _ (.cells #[.bool n',.slice ax4 (digs BB m').length kx4,.int .i64 e'] 63))
  obtain⟨z0,z1,z2,-⟩:=Z.open3
  have hBz:=below_set3 B4 (Nat.le_refl _) (.bool n') (.slice ax4 (digs BB m').length kx4) (.int .i64 e')
  refine bodyPost_ret (v:= .tuple #[.agg #[.bool n',.slice ax4 (digs BB m').length kx4,.int .i64 e'],.bool true]) (by simp[results,Tryz.results23,go_sem,z0,z1,z2]) rfl ⟨_,rfl,(x4.set3 R4 dcells _ _ _).below (below_alloc _ _),hBz.trans ((below_alloc _ _).mono hBz.size)⟩
set_option maxHeartbeats 600000 in
theorem early_n {w:World}{x a b k:Nat}{dir:Int}(hx:x<18446744073709551616) (h1:32≤a) (h2:a≤b) (h3:64≤b) (h4:b≤8192) (d0:0≤dir) (d3:dir≤3) (hk:kindN x=k) (k4:k<4):
 Calls Tryz.prog 22 #[L64 x,.agg #[.int .i64 dir,.int .i64 (a:Int),.int .i64 (b:Int),.pointer none]] w (fun r w'=>r= .returned (.tuple #[.agg #[.int .u64 0,.int .u8 0,.int .i64 0],.int .i64 0,.bool false])∧Below w.heap.size w w'):=by
 have HP:=Lib.hid (fun w=>plan_ok (w:=w) h1 h2 h3 h4)
 have HK:=Lib.hid (fun w=>kind_n (w:=w) hx)
 rw[hk]at HK
 have e0:decide (dir<(0:Int))=false:=decide_eq_false (by omega)
 have e3:decide ((3:Int)<dir)=false:=decide_eq_false (by omega)
 have g5:((k:Int)==5)=false:=beq_false_of_ne (by omega)
 have g4:((k:Int)==4)=false:=beq_false_of_ne (by omega)
 have g5':(k==5)=false:=beq_false_of_ne (by omega)
 have g4':(k==4)=false:=beq_false_of_ne (by omega)
 clear h1 h2 h3 h4 d0 d3 hk hx k4
 go_enter Tryz.func22,Tryz.ntmps22
 go_wp2_with
  (first
    |(go_at_call 44;(with_reducible refine(HP.out _).mono ?_);rintro e w1 ⟨v1,l1,rfl,hl1,hr1,hb1⟩;have B1:=below_2.trans (hb1.mono below_2.size);have P1:=((blk_a1)).below hb1;have R1:=((blk_a2)).below hb1;obtain⟨cP0_1,cP1_1,cP2_1,cP3_1,fP0_1,fP1_1,fP2_1,fP3_1,sP_1⟩:=P1.open4;obtain⟨cR0_1,cR1_1,cR2_1,fR0_1,fR1_1,fR2_1,sR_1⟩:=R1.open3)
    |(go_at_call 33;(with_reducible refine(HK.out _).mono ?_);rintro e w2 ⟨rfl,rfl⟩)
    |fail)
 obtain⟨z0,z1,z2,-⟩:=(R1.set3 (.int .u64 0) (.int .u8 0) (.int .i64 0)).open3
 refine bodyPost_ret (v:= .tuple #[.agg #[.int .u64 0,.int .u8 0,.int .i64 0],.int .i64 0,.bool false]) (by simp[results,Tryz.results22,go_sem,z0,z1,z2]) rfl ⟨rfl,below_set3b B1 (by omega) _ _ _⟩
set_option maxHeartbeats 600000 in
theorem early_sig {w:World}{x a b:Nat}{dir:Int}(hx:x<18446744073709551616) (h1:32≤a) (h2:a≤b) (h3:64≤b) (h4:b≤8192) (d0:0≤dir) (d3:dir≤3) (hk:kindN x=5):
 Calls Tryz.prog 22 #[L64 x,.agg #[.int .i64 dir,.int .i64 (a:Int),.int .i64 (b:Int),.pointer none]] w (fun r w'=>r= .returned (.tuple #[.agg #[.int .u64 9221120237041090560,.int .u8 16,.int .i64 0],.int .i64 0,.bool true])∧Below w.heap.size w w'):=by
 have HP:=Lib.hid (fun w=>plan_ok (w:=w) h1 h2 h3 h4)
 have HK:=Lib.hid (fun w=>kind_n (w:=w) hx)
 rw[hk]at HK
 have e0:decide (dir<(0:Int))=false:=decide_eq_false (by omega)
 have e3:decide ((3:Int)<dir)=false:=decide_eq_false (by omega)
 clear h1 h2 h3 h4 d0 d3 hk hx
 go_enter Tryz.func22,Tryz.ntmps22
 go_wp2_with
  (first
    |(go_at_call 44;(with_reducible refine(HP.out _).mono ?_);rintro e w1 ⟨v1,l1,rfl,hl1,hr1,hb1⟩;have B1:=below_2.trans (hb1.mono below_2.size);have P1:=((blk_a1)).below hb1;have R1:=((blk_a2)).below hb1;obtain⟨cP0_1,cP1_1,cP2_1,cP3_1,fP0_1,fP1_1,fP2_1,fP3_1,sP_1⟩:=P1.open4;obtain⟨cR0_1,cR1_1,cR2_1,fR0_1,fR1_1,fR2_1,sR_1⟩:=R1.open3)
    |(go_at_call 33;(with_reducible refine(HK.out _).mono ?_);rintro e w2 ⟨rfl,rfl⟩)
    |fail)
 obtain⟨z0,z1,z2,-⟩:=(R1.set3 (.int .u64 9221120237041090560) (.int .u8 16) (.int .i64 0)).open3
 refine bodyPost_ret (v:= .tuple #[.agg #[.int .u64 9221120237041090560,.int .u8 16,.int .i64 0],.int .i64 0,.bool true]) (by simp[results,Tryz.results22,go_sem,z0,z1,z2]) rfl ⟨rfl,below_set3b B1 (by omega) _ _ _⟩
set_option maxHeartbeats 600000 in
theorem early_quiet {w:World}{x a b:Nat}{dir:Int}(hx:x<18446744073709551616) (h1:32≤a) (h2:a≤b) (h3:64≤b) (h4:b≤8192) (d0:0≤dir) (d3:dir≤3) (hk:kindN x=4):
 Calls Tryz.prog 22 #[L64 x,.agg #[.int .i64 dir,.int .i64 (a:Int),.int .i64 (b:Int),.pointer none]] w (fun r w'=>r= .returned (.tuple #[.agg #[.int .u64 9221120237041090560,.int .u8 0,.int .i64 0],.int .i64 0,.bool true])∧Below w.heap.size w w'):=by
 have HP:=Lib.hid (fun w=>plan_ok (w:=w) h1 h2 h3 h4)
 have HK:=Lib.hid (fun w=>kind_n (w:=w) hx)
 rw[hk]at HK
 have e0:decide (dir<(0:Int))=false:=decide_eq_false (by omega)
 have e3:decide ((3:Int)<dir)=false:=decide_eq_false (by omega)
 clear h1 h2 h3 h4 d0 d3 hk hx
 go_enter Tryz.func22,Tryz.ntmps22
 go_wp2_with
  (first
    |(go_at_call 44;(with_reducible refine(HP.out _).mono ?_);rintro e w1 ⟨v1,l1,rfl,hl1,hr1,hb1⟩;have B1:=below_2.trans (hb1.mono below_2.size);have P1:=((blk_a1)).below hb1;have R1:=((blk_a2)).below hb1;obtain⟨cP0_1,cP1_1,cP2_1,cP3_1,fP0_1,fP1_1,fP2_1,fP3_1,sP_1⟩:=P1.open4;obtain⟨cR0_1,cR1_1,cR2_1,fR0_1,fR1_1,fR2_1,sR_1⟩:=R1.open3)
    |(go_at_call 33;(with_reducible refine(HK.out _).mono ?_);rintro e w2 ⟨rfl,rfl⟩)
    |fail)
 obtain⟨z0,z1,z2,-⟩:=(R1.set3 (.int .u64 9221120237041090560) (.int .u8 0) (.int .i64 0)).open3
 refine bodyPost_ret (v:= .tuple #[.agg #[.int .u64 9221120237041090560,.int .u8 0,.int .i64 0],.int .i64 0,.bool true]) (by simp[results,Tryz.results22,go_sem,z0,z1,z2]) rfl ⟨rfl,below_set3b B1 (by omega) _ _ _⟩
set_option maxHeartbeats 600000 in
theorem early_bad {w:World}{x:Nat}{a b dir:Int}(hx:x<18446744073709551616) (hbad:¬planOk a b∨dir<0∨3<dir):
 Calls Tryz.prog 22 #[L64 x,.agg #[.int .i64 dir,.int .i64 a,.int .i64 b,.pointer none]] w (fun r w'=>r= .returned (.tuple #[.agg #[.int .u64 0,.int .u8 0,.int .i64 0],.int .i64 1,.bool true])∧Below w.heap.size w w'):=by
 have HK:=Lib.hid (fun w=>kind_n (w:=w) hx)
 generalize kindN x=k at HK
 clear hx
 by_cases hp:planOk a b
 ·have hd:dir<0∨3<dir:=hbad.resolve_left (fun h=>h hp)
  clear hbad
  unfold planOk at hp
  obtain⟨a',rfl⟩:∃n:Nat,a=(n:Int):=⟨a.toNat,by omega⟩
  obtain⟨b',rfl⟩:∃n:Nat,b=(n:Int):=⟨b.toNat,by omega⟩
  have HP:=Lib.hid (fun w=>plan_ok (w:=w) (a:=a') (b:=b') (by omega) (by omega) (by omega) (by omega))
  clear hp
  by_cases c0:dir<0
  ·have e0:decide (dir<(0:Int))=true:=decide_eq_true c0
   clear hd c0
   go_enter Tryz.func22,Tryz.ntmps22
   go_wp2_with
    (first
      |(go_at_call 44;(with_reducible refine(HP.out _).mono ?_);rintro e w1 ⟨v1,l1,rfl,hl1,hr1,hb1⟩;have B1:=below_2.trans (hb1.mono below_2.size);have P1:=((blk_a1)).below hb1;have R1:=((blk_a2)).below hb1;obtain⟨cP0_1,cP1_1,cP2_1,cP3_1,fP0_1,fP1_1,fP2_1,fP3_1,sP_1⟩:=P1.open4;obtain⟨cR0_1,cR1_1,cR2_1,fR0_1,fR1_1,fR2_1,sR_1⟩:=R1.open3)
      |(go_at_call 33;(with_reducible refine(HK.out _).mono ?_);rintro e w2 ⟨rfl,rfl⟩)
      |fail)
   obtain⟨z0,z1,z2,-⟩:=(R1.set3 (.int .u64 0) (.int .u8 0) (.int .i64 0)).open3
   refine bodyPost_ret (v:= .tuple #[.agg #[.int .u64 0,.int .u8 0,.int .i64 0],.int .i64 1,.bool true]) (by simp[results,Tryz.results22,go_sem,z0,z1,z2]) rfl ⟨rfl,below_set3b B1 (by omega) _ _ _⟩
  ·have e0:decide (dir<(0:Int))=false:=decide_eq_false c0
   have e3:decide ((3:Int)<dir)=true:=decide_eq_true (by omega)
   clear hd c0
   go_enter Tryz.func22,Tryz.ntmps22
   go_wp2_with
    (first
      |(go_at_call 44;(with_reducible refine(HP.out _).mono ?_);rintro e w1 ⟨v1,l1,rfl,hl1,hr1,hb1⟩;have B1:=below_2.trans (hb1.mono below_2.size);have P1:=((blk_a1)).below hb1;have R1:=((blk_a2)).below hb1;obtain⟨cP0_1,cP1_1,cP2_1,cP3_1,fP0_1,fP1_1,fP2_1,fP3_1,sP_1⟩:=P1.open4;obtain⟨cR0_1,cR1_1,cR2_1,fR0_1,fR1_1,fR2_1,sR_1⟩:=R1.open3)
      |(go_at_call 33;(with_reducible refine(HK.out _).mono ?_);rintro e w2 ⟨rfl,rfl⟩)
      |fail)
   obtain⟨z0,z1,z2,-⟩:=(R1.set3 (.int .u64 0) (.int .u8 0) (.int .i64 0)).open3
   refine bodyPost_ret (v:= .tuple #[.agg #[.int .u64 0,.int .u8 0,.int .i64 0],.int .i64 1,.bool true]) (by simp[results,Tryz.results22,go_sem,z0,z1,z2]) rfl ⟨rfl,below_set3b B1 (by omega) _ _ _⟩
 ·have HP:=Lib.hid (fun w=>plan_no (w:=w) hp)
  clear hbad hp
  go_enter Tryz.func22,Tryz.ntmps22
  go_wp2_with
   (first
     |(go_at_call 44;(with_reducible refine(HP.out _).mono ?_);rintro e w1 ⟨rfl,rfl⟩)
     |(go_at_call 33;(with_reducible refine(HK.out _).mono ?_);rintro e w2 ⟨rfl,rfl⟩)
     |fail)
  obtain⟨z0,z1,z2,-⟩:=(blk_a2 (w:=w) (T:=38) (o:= .cells #[.int .i64 dir,.int .i64 a,.int .i64 b,.pointer none] 33 (0,0)) (c:= #[.int .u64 0,.int .u8 0,.int .i64 0])).open3
  refine bodyPost_ret (v:= .tuple #[.agg #[.int .u64 0,.int .u8 0,.int .i64 0],.int .i64 1,.bool true]) (by simp[results,Tryz.results22,go_sem,z0,z1,z2]) rfl ⟨rfl,below_2⟩
end Go.Proofs.YtffaefjkpipjnaaGreatDoor
