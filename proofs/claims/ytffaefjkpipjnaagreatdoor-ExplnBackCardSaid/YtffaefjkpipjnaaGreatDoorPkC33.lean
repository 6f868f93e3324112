/- ExplnBack's walk. Conditions: bits are bits; math/bits' table stands in its variable. -/
import Derived.Test.YtffaefjkpipjnaaGreatDoorPkC32
namespace Go.Proofs.YtffaefjkpipjnaaGreatDoor.PXBack
set_option linter.unusedVariables false
set_option linter.unusedSimpArgs false
set_option maxRecDepth 100000
open Go.RowKit Go.ChangeShapes Go.WideShapes
set_option maxRecDepth 100000 in
set_option maxHeartbeats 4000000 in
theorem walk0 {w:World}{x:Nat}(hx:x<18446744073709551616) (hT:Tab w):Calls Tryz.prog 3 #[L64 x] w (fun e w'=>e= .returned (.bool true)∧Below w.heap.size w w'):=by
 have HA:=Lib.hid (fun w (hT:Tab w)=>alive31_any (w:=w) hT)
 have HK:=Lib.hid (fun w=>rkind_n (w:=w) hx)
 obtain⟨k,hk⟩:∃k,kindN x=k:=⟨_,rfl⟩
 rw[hk]at HK
 by_cases k2:k=2
 case neg=>
  have d1:((k:Int) !=2)=true:=bne_iff_ne.2 (by omega)
  have d2:((k:Int)==2)=false:=beq_false_of_ne (by omega)
  clear hk k2 hx
  go_enter Tryz.func3,Tryz.ntmps3
  go_wp2_with
   (first
     |(go_at_call 6;(with_reducible refine(HA.out _ hT).mono ?_);rintro e w1 ⟨rfl,hb1⟩;have B1:=hb1;have T1:=hT.below hb1;clear hT)
     |(go_at_call 7;(with_reducible refine(HK.out _).mono ?_);rintro e w2 ⟨rfl,rfl⟩)
     |fail)
  go_ret
  exact⟨rfl,by assumption⟩
 subst k2
 have hf:=kind_fin.1 (show kindN x<3 by omega)
 have hm:=(dyB_mid hf).1
 have hms:=hm.bits;have hm1:=hm.1;have hm2:=hm.2.1
 obtain⟨t,ht⟩:∃t,topD (dyB x)=t:=⟨_,rfl⟩
 obtain⟨⟨n',B,EB⟩,hd⟩:∃d,dyB x=d:=⟨_,rfl⟩
 have ht':=Lib.hid ht
 rw[hd]at hms hm1 hm2 ht
 dsimp only at hms hm1 hm2
 have HW:=Lib.hid (fun w=>RWorthS_n (w:=w) hx hd)
 have HTP:Hid (∀(w:World) v,RdD w v (digs DD B)→Calls Tryz.prog 9 #[.agg #[.bool n',v,.int .i64 EB]] w (fun e w'=>e= .returned (.int .i64 t)∧Below w.heap.size w w')):=Lib.hid (fun w v h=>by rw[←ht];exact RTop_n h (by omega) (by omega) (by omega))
 have HP:=Lib.hid (fun w=>plain_n (w:=w))
 have hfar:farW 1024=false:=by decide
 have HE:=Lib.hid (fun w (hT:Tab w)=>exp_call (w:=w) (x:=x) (dir:=0) (fr:=64) (pt:=1024) hx hT hfar)
 have HO:=Lib.hid (fun w=>order31_n (w:=w) hx)
 have hxh:=Lib.hid hx
 have hkh:=Lib.hid hk
 clear hx hk hf hm hms hm1 hm2 ht hd
 go_enter Tryz.func3,Tryz.ntmps3
 go_upto_region 6 with
  (first
    |(go_at_call 6;(with_reducible refine(HA.out _ hT).mono ?_);rintro e w1 ⟨rfl,hb1⟩;have B1:=hb1;have T1:=hT.below hb1;clear hT)
    |(go_at_call 7;(with_reducible refine(HK.out _).mono ?_);rintro e w2 ⟨rfl,rfl⟩)
    |(go_at_call 8;(with_reducible refine(HW.out _).mono ?_);rintro e w3 ⟨vx,rfl,x3,hb3⟩;have B3:=B1.trans (hb3.mono B1.size);have T3:=T1.below hb3;clear T1;obtain⟨ax3,kx3,rfl,-⟩:=x3.view;try simp only[List.length_nil]at x3)
    |fail)
 have hA3:=below_alloc w3 (.cells #[.bool n',.slice ax3 (digs DD B).length kx3,.int .i64 EB] 27 (0,0))
 have N4:Blk (w3.alloc (.cells #[.bool n',.slice ax3 (digs DD B).length kx3,.int .i64 EB] 27 (0,0))) w3.heap.size #[.bool n',.slice ax3 (digs DD B).length kx3,.int .i64 EB]:=blk_new
 have T4:=T3.below hA3
 have x4:=x3.below hA3
 have B4:=B3.trans (hA3.mono B3.size)
 change Code.wp _ _ _ _ (w3.alloc (.cells #[.bool n',.slice ax3 (digs DD B).length kx3,.int .i64 EB] 27 (0,0)))
 generalize w3.alloc (.cells #[.bool n',.slice ax3 (digs DD B).length kx3,.int .i64 EB] 27 (0,0))=w4 at*
 generalize w3.heap.size=bn at*
 clear hA3 hb3 B3 T3 x3 hb1 HW HK HA
 obtain⟨cN0,cN1,cN2,fN0,fN1,fN2,sN⟩:=N4.open3
 go_cut [26] (fun v w'=>v= .bool (decide (8<t)||decide (t<0))∧Below w4.heap.size w4 w')
 case first=>
  have hB0:Below w4.heap.size w4 w4:=Below.refl _ _
  by_cases c1:8<t
  ·have e1:decide (8<t)=true:=decide_eq_true c1
   go_wp2_with
    (first
      |(go_at_call 9;(with_reducible refine(HTP.out _ _ x4).mono ?_);rintro e w31 ⟨rfl,hb31⟩;have B31:=hB0.trans (hb31.mono hB0.size);have x31:=x4.below hb31;clear x4)
      |fail)
   go_meet
   exact⟨by rw[e1];rfl,by assumption⟩
  ·have e1:decide (8<t)=false:=decide_eq_false c1
   go_wp2_with
    (first
      |(go_at_call 9;(with_reducible refine(HTP.out _ _ x4).mono ?_);rintro e w31 ⟨rfl,hb31⟩;have B31:=hB0.trans (hb31.mono hB0.size);have x31:=x4.below hb31;have N31:=N4.below hb31;clear x4 N4;obtain⟨cN0_31,cN1_31,cN2_31,fN0_31,fN1_31,fN2_31,sN_31⟩:=N31.open3)
      |(go_at_call 9;(with_reducible refine(HTP.out _ _ x31).mono ?_);rintro e w32 ⟨rfl,hb32⟩;have B32:=B31.trans (hb32.mono B31.size);have x32:=x31.below hb32;have N32:=N31.below hb32;clear x31 N31;clear cN0_31 cN1_31 cN2_31 fN0_31 fN1_31 fN2_31 sN_31;obtain⟨cN0_32,cN1_32,cN2_32,fN0_32,fN1_32,fN2_32,sN_32⟩:=N32.open3)
      |fail)
   go_meet
   exact⟨by rw[e1,Bool.false_or],by assumption⟩
 case rest=>
 obtain⟨rfl,hcb⟩:=hcut
 generalize hwx:wc=w5 at*
 clear hwx
 have T5:=T4.below hcb
 have B5:=B4.trans (hcb.mono B4.size)
 clear HTP x4 T4 B4 N4 cN0 cN1 cN2 fN0 fN1 fN2 sN hcb
 by_cases ct:(decide (8<t)||decide (t<0))=true
 ·rw[ct]
  go_wp2_with fail
  go_ret
  exact⟨rfl,B5⟩
 rw[show(decide (8<t)||decide (t<0))=false by cases h:(decide (8<t)||decide (t<0));rfl;exact absurd h ct]
 have ct8:=Lib.hid (show t≤8 by
  by_cases c:8<t
  ·rw[decide_eq_true c]at ct;exact absurd rfl ct
  ·omega)
 have ct0:=Lib.hid (show 0≤t by
  by_cases c:t<0
  ·rw[decide_eq_true c,Bool.or_true]at ct;exact absurd rfl ct
  ·omega)
 clear ct
 go_upto_region 9 with(first
  |(go_at_call 10;(with_reducible refine(HP.out _).mono ?_);rintro e w6 ⟨rfl,hb6⟩)
  |fail)
 have hA6:=below_alloc w6 (.cells #[.int .i64 0,.int .i64 64,.int .i64 1024,.pointer none] 33 (0,0))
 have H7:Blk (w6.alloc (.cells #[.int .i64 0,.int .i64 64,.int .i64 1024,.pointer none] 33 (0,0))) w6.heap.size #[.int .i64 0,.int .i64 64,.int .i64 1024,.pointer none]:=blk_new
 have T7:=(T5.below hb6).below hA6
 have B7:=(B5.trans (hb6.mono B5.size)).trans (hA6.mono (Nat.le_trans B5.size hb6.size))
 change Code.wp _ _ _ _ (w6.alloc (.cells #[.int .i64 0,.int .i64 64,.int .i64 1024,.pointer none] 33 (0,0)))
 generalize w6.alloc (.cells #[.int .i64 0,.int .i64 64,.int .i64 1024,.pointer none] 33 (0,0))=w7 at*
 generalize w6.heap.size=bh at*
 clear hA6 hb6 T5 B5 HP
 obtain⟨cH0,cH1,cH2,cH3,fH0,fH1,fH2,fH3,sH⟩:=H7.open4
 go_upto_region 10 with(first
  |(go_at_call 11;(with_reducible refine(HE.out _ T7).mono ?_);rintro e w8 ⟨b,f,st,tr,er,rfl,hc8,hb8⟩)
  |fail)
 have hA8:=below_alloc w8 (.cells #[L64 b,.int .u8 f,.int .i64 st] 38 (0,0))
 have R9:Blk (w8.alloc (.cells #[L64 b,.int .u8 f,.int .i64 st] 38 (0,0))) w8.heap.size #[L64 b,.int .u8 f,.int .i64 st]:=blk_new
 have H9:=(H7.below hb8).below hA8
 have T9:=(T7.below hb8).below hA8
 have B9:=(B7.trans (hb8.mono B7.size)).trans (hA8.mono (Nat.le_trans B7.size hb8.size))
 change Code.wp _ _ _ _ (w8.alloc (.cells #[L64 b,.int .u8 f,.int .i64 st] 38 (0,0)))
 generalize w8.alloc (.cells #[L64 b,.int .u8 f,.int .i64 st] 38 (0,0))=w9 at*
 generalize w8.heap.size=br at*
 clear hA8 hb8 T7 B7 H7 HE cH0 cH1 cH2 cH3 fH0 fH1 fH2 fH3 sH
 have hbb:=exp_bits hxh.out hkh.out (by decide) (by decide) hc8
 have HL:=Lib.hid (fun w (hT:Tab w)=>ln_call (w:=w) (x:=b) (dir:=0) (fr:=64) (pt:=1024) hbb hT hfar)
 clear hbb
 obtain⟨cH0,cH1,cH2,cH3,fH0,fH1,fH2,fH3,sH⟩:=H9.open4
 obtain⟨cR0,cR1,cR2,fR0,fR1,fR2,sR⟩:=R9.open3
 go_upto_region 11 with(first
  |(go_at_call 12;(with_reducible refine(HL.out _ T9).mono ?_);rintro e w10 ⟨c,g,st2,tr2,er2,rfl,hc10,hb10⟩)
  |fail)
 have hA10:=below_alloc w10 (.cells #[L64 c,.int .u8 g,.int .i64 st2] 38 (0,0))
 have S11:Blk (w10.alloc (.cells #[L64 c,.int .u8 g,.int .i64 st2] 38 (0,0))) w10.heap.size #[L64 c,.int .u8 g,.int .i64 st2]:=blk_new
 have R11:=(R9.below hb10).below hA10
 have B11:=(B9.trans (hb10.mono B9.size)).trans (hA10.mono (Nat.le_trans B9.size hb10.size))
 change Code.wp _ _ _ _ (w10.alloc (.cells #[L64 c,.int .u8 g,.int .i64 st2] 38 (0,0)))
 generalize w10.alloc (.cells #[L64 c,.int .u8 g,.int .i64 st2] 38 (0,0))=w11 at*
 generalize w10.heap.size=bs at*
 clear hA10 hb10 T9 B9 H9 R9 HL cH0 cH1 cH2 cH3 fH0 fH1 fH2 fH3 sH cR0 cR1 cR2 fR0 fR1 fR2 sR
 obtain⟨cR0,cR1,cR2,fR0,fR1,fR2,sR⟩:=R11.open3
 obtain⟨cS0,cS1,cS2,fS0,fS1,fS2,sS⟩:=S11.open3
 by_cases z1:st=0
 case neg=>
  have z1':(st==0)=false:=beq_false_of_ne z1
  have z1'':(st !=0)=true:=bne_iff_ne.2 z1
  go_wp2_with fail
  go_ret
  exact⟨rfl,B11⟩
 subst z1
 by_cases z2:st2=0
 case neg=>
  have z2':(st2==0)=false:=beq_false_of_ne z2
  have z2'':(st2 !=0)=true:=bne_iff_ne.2 z2
  go_wp2_with fail
  go_ret
  exact⟨rfl,B11⟩
 subst z2
 have er0:rightW 0 64 1024=true:=by decide
 obtain rfl:=callR_er er0 hc8
 obtain rfl:=callR_er er0 hc10
 have hlaw:=back_law hxh.out hkh.out (ht'.out▸ct0.out) (ht'.out▸ct8.out) hc8 hc10
 have hcb:c<18446744073709551616:=by
  have:=back_bits hxh.out hkh.out (ht'.out▸ct0.out) (ht'.out▸ct8.out) hc8 hc10
  exact this
 have HOc:=Lib.hid (fun w=>order31_n (w:=w) hcb)
 have hw:IntKind.i64.wrap (ordN c-ordN x)=ordN c-ordN x:=by rw[IntKind.wrap_i64];omega
 generalize ordN c=o1 at*
 generalize ordN x=o2 at*
 have d1:decide (-2≤o1-o2)=true:=decide_eq_true hlaw.2
 have d2:decide (o1-o2≤2)=true:=decide_eq_true hlaw.1
 clear hc8 hc10 hcb hlaw hxh hkh ht' ct0 ct8
 go_wp2_with (first
  |(go_at_call 13;(with_reducible refine(HOc.out _).mono ?_);rintro e wx ⟨rfl,rfl⟩)
  |(go_at_call 13;(with_reducible refine(HO.out _).mono ?_);rintro e wx ⟨rfl,rfl⟩)
  |fail)
 go_ret
 exact⟨rfl,B11⟩
theorem walk (xi:Int) (w:World) (wx:(Lit.int .u64 xi).wf=true) (hT:Tab w):
 Calls Tryz.prog 3 #[.int .u64 xi] w fun e w'=>e= .returned (.bool true)∧Below w.heap.size w w':=by
 have h1:0≤xi∧xi≤18446744073709551615:=by simpa[Lit.wf,IntKind.min,IntKind.max,IntKind.bits,IntKind.signed]using wx
 obtain⟨x,rfl⟩:∃n:Nat,xi=(n:Int):=⟨xi.toNat,by omega⟩
 exact walk0 (by omega) hT
end Go.Proofs.YtffaefjkpipjnaaGreatDoor.PXBack
