/- ExplnRules' walk. Conditions: bits are bits; math/bits' table stands in its variable. (Printed by wip/gen/gen_rules31.py.) -/
import Derived.Test.YtffaefjkpipjnaaGreatDoorPkB36
import Derived.BigQuiet
namespace Go.Proofs.YtffaefjkpipjnaaGreatDoor.PXRules
set_option linter.unusedVariables false
set_option linter.unusedSimpArgs false
set_option maxRecDepth 100000
open Go.RowKit Go.ChangeShapes Go.WideShapes
theorem tk8 {P:Program}{md:Region.Mode}{Q:Exit→Act→World→Prop}{S:World→Prop}{fuel:Nat}{listed:Array Bool}{a:Act}{w:World}{L:List Oper}{o:Oper}{r:List Oper}{v:Value}(k:Nat)
 (hL:L.drop k=o::r) (hQ:∀c a w,Q (.panic c) (a.put o.dst v) w→Q (.panic c) a w) (hS:S w) (hl:listed[k]?=some false)
 (hb:(Region.noSelect L.toArray&&Region.free md L.toArray listed k&&(Region.ready md L.toArray listed).contains k&&Region.wanted o (yielded L.toArray a.tmps))=true)
 (hy:∀w,S w→(execOp a.eval o).run P w= .ok (.value v) w)
 (h:wpAnyH P md L.toArray Q S fuel (listed.setIfInBounds k true) (a.put o.dst v) w):wpAnyH P md L.toArray Q S (fuel+1) listed a w:=by
 simp only[Bool.and_eq_true]at hb
 exact wpAnyH_take (getOf8 hL) hb.1.1.1 hb.1.1.2 hb.1.2 hQ (Or.inl ⟨hb.2,hy⟩) hS h
theorem tn8 {P:Program}{md:Region.Mode}{Q:Exit→Act→World→Prop}{S:World→Prop}{fuel:Nat}{listed:Array Bool}{a:Act}{w:World}{L:List Oper}{o:Oper}{r:List Oper}(k:Nat)
 (hL:L.drop k=o::r) (hQ:∀c a w,Q (.panic c) (a.put o.dst undef) w→Q (.panic c) a w) (hS:S w) (hl:listed[k]?=some false)
 (hb:(Region.noSelect L.toArray&&Region.free md L.toArray listed k&&(Region.ready md L.toArray listed).contains k&&!Region.wanted o (yielded L.toArray a.tmps))=true)
 (h:wpAnyH P md L.toArray Q S fuel (listed.setIfInBounds k true) (a.put o.dst undef) w):wpAnyH P md L.toArray Q S (fuel+1) listed a w:=by
 simp only[Bool.and_eq_true,Bool.not_eq_true']at hb
 exact wpAnyH_take (getOf8 hL) hb.1.1.1 hb.1.1.2 hb.1.2 hQ (Or.inr ⟨hb.2,rfl⟩) hS h
set_option maxRecDepth 100000 in
set_option maxHeartbeats 4000000 in
theorem walk0 {w:World}{kd x y dr:Nat}(hx:x<18446744073709551616) (hy:y<18446744073709551616) (hkd:kd<256) (hdr:dr<256) (hT:Tab w):Calls Tryz.prog 5 #[.int .u8 (kd:Int),L64 x,L64 y,.int .u8 (dr:Int)] w (fun e w'=>e= .returned (.bool true)∧Below w.heap.size w w'):=by
 have HA:=Lib.hid (fun w (hT:Tab w)=>alive31_any (w:=w) hT)
 have HKx:=Lib.hid (fun w=>rkind_n (w:=w) hx)
 have HKy:=Lib.hid (fun w=>rkind_n (w:=w) hy)
 obtain⟨k,hk⟩:∃k,kd%3=k:=⟨_,rfl⟩
 have ek:(kd:Int)%3=(k:Int):=by omega
 obtain⟨d,hd⟩:∃d,dr%4=d:=⟨_,rfl⟩
 have ed:(dr:Int)%4=(d:Int):=by omega
 have k3:k<3:=by omega
 have d4:d<4:=by omega
 have wk:IntKind.i64.wrap (k:Int)=(k:Int):=by rw[IntKind.wrap_i64];omega
 have wd:IntKind.i64.wrap (d:Int)=(d:Int):=by rw[IntKind.wrap_i64];omega
 obtain⟨kx,ekx⟩:∃k,kindN x=k:=⟨_,rfl⟩
 obtain⟨ky,eky⟩:∃k,kindN y=k:=⟨_,rfl⟩
 rw[ekx]at HKx
 rw[eky]at HKy
 clear hk hd hkd hdr
 by_cases c1:3<kx
 ·have t1:decide ((3:Int)<(kx:Int))=true:=decide_eq_true (by omega)
  have t1':decide (3<kx)=true:=decide_eq_true c1
  clear hx hy ekx eky k3 d4 c1 wk wd
  go_enter Tryz.func5,Tryz.ntmps5
  go_wp2_with (first
   |(go_at_call 6;(with_reducible refine(HA.out _ hT).mono ?_);rintro e w1 ⟨rfl,hb1⟩)
   |(go_at_call 7;(with_reducible refine(HKx.out _).mono ?_);rintro e wx ⟨rfl,rfl⟩)
   |(go_at_call 7;(with_reducible refine(HKy.out _).mono ?_);rintro e wx ⟨rfl,rfl⟩)
   |fail)
  go_ret
  exact⟨rfl,below_al hb1 _⟩
 have t1:decide ((3:Int)<(kx:Int))=false:=decide_eq_false (by omega)
 have t1':decide (3<kx)=false:=decide_eq_false c1
 by_cases c2:3<ky
 ·have t2:decide ((3:Int)<(ky:Int))=true:=decide_eq_true (by omega)
  have t2':decide (3<ky)=true:=decide_eq_true c2
  clear hx hy ekx eky k3 d4 c1 c2 wk wd
  go_enter Tryz.func5,Tryz.ntmps5
  go_wp2_with (first
   |(go_at_call 6;(with_reducible refine(HA.out _ hT).mono ?_);rintro e w1 ⟨rfl,hb1⟩)
   |(go_at_call 7;(with_reducible refine(HKx.out _).mono ?_);rintro e wx ⟨rfl,rfl⟩)
   |(go_at_call 7;(with_reducible refine(HKy.out _).mono ?_);rintro e wx ⟨rfl,rfl⟩)
   |fail)
  go_ret
  exact⟨rfl,below_al hb1 _⟩
 have t2:decide ((3:Int)<(ky:Int))=false:=decide_eq_false (by omega)
 have t2':decide (3<ky)=false:=decide_eq_false c2
 have hneg:∀z:Nat,negN z=true→decide ((9223372036854775808:Int)≤(z:Int))=true∧decide (9223372036854775808≤z)=true:=fun z h=>by
  unfold negN at h
  have:=of_decide_eq_true h
  exact⟨decide_eq_true (by omega),h⟩
 have hpos:∀z:Nat,negN z=false→decide ((9223372036854775808:Int)≤(z:Int))=false∧decide (9223372036854775808≤z)=false:=fun z h=>by
  unfold negN at h
  have:=of_decide_eq_false h
  exact⟨decide_eq_false (by omega),h⟩
 by_cases c3:k=1∧negN x=true
 ·obtain⟨rfl,hn⟩:=c3
  obtain⟨t3,t3'⟩:=hneg x hn
  clear hx hy ekx eky k3 d4 c1 c2 hn hneg hpos wk wd
  go_enter Tryz.func5,Tryz.ntmps5
  go_wp2_with (first
   |(go_at_call 6;(with_reducible refine(HA.out _ hT).mono ?_);rintro e w1 ⟨rfl,hb1⟩)
   |(go_at_call 7;(with_reducible refine(HKx.out _).mono ?_);rintro e wx ⟨rfl,rfl⟩)
   |(go_at_call 7;(with_reducible refine(HKy.out _).mono ?_);rintro e wx ⟨rfl,rfl⟩)
   |fail)
  go_ret
  exact⟨rfl,below_al hb1 _⟩
 by_cases c4:k=1∧negN x=false∧negN y=true
 ·obtain⟨rfl,hn,hn2⟩:=c4
  obtain⟨t3,t3'⟩:=hpos x hn
  obtain⟨t4,t4'⟩:=hneg y hn2
  clear hx hy ekx eky k3 d4 c1 c2 c3 hn hn2 hneg hpos wk wd
  go_enter Tryz.func5,Tryz.ntmps5
  go_wp2_with (first
   |(go_at_call 6;(with_reducible refine(HA.out _ hT).mono ?_);rintro e w1 ⟨rfl,hb1⟩)
   |(go_at_call 7;(with_reducible refine(HKx.out _).mono ?_);rintro e wx ⟨rfl,rfl⟩)
   |(go_at_call 7;(with_reducible refine(HKy.out _).mono ?_);rintro e wx ⟨rfl,rfl⟩)
   |fail)
  go_ret
  exact⟨rfl,below_al hb1 _⟩
 have nx:k=1→negN x=false:=fun h=>by
  cases hn:negN x
  ·rfl
  ·exact absurd ⟨h,hn⟩ c3
 have ny:k=1→negN y=false:=fun h=>by
  cases hn:negN y
  ·rfl
  ·exact absurd ⟨h,nx h,hn⟩ c4
 have tk:(((k:Int)==1)=false∧(k==1)=false)∨((((k:Int)==1)=true∧(k==1)=true)∧(decide ((9223372036854775808:Int)≤(x:Int))=false∧decide (9223372036854775808≤x)=false)∧decide ((9223372036854775808:Int)≤(y:Int))=false∧decide (9223372036854775808≤y)=false):=by
  by_cases h:k=1
  ·exact .inr ⟨⟨beq_iff_eq.2 (by omega),beq_iff_eq.2 h⟩,hpos x (nx h),hpos y (ny h)⟩
  ·exact .inl ⟨beq_false_of_ne (by omega),beq_false_of_ne h⟩
 have HOx:=Lib.hid (fun w=>order31_n (w:=w) hx)
 have HOy:=Lib.hid (fun w=>order31_n (w:=w) hy)
 go_enter Tryz.func5,Tryz.ntmps5
 go_upto_region 5 with(first
  |(go_at_call 6;(with_reducible refine(HA.out _ hT).mono ?_);rintro e w1 ⟨rfl,hb1⟩)
  |fail)
 have H0:Blk (w1.alloc (.cells #[.int .i64 (d:Int),.int .i64 64,.int .i64 512,.pointer none] 33 (0,0))) w1.heap.size #[.int .i64 (d:Int),.int .i64 64,.int .i64 512,.pointer none]:=blk_new
 have T0:=(hT.below hb1).below (below_alloc w1 (.cells #[.int .i64 (d:Int),.int .i64 64,.int .i64 512,.pointer none] 33 (0,0)))
 have B0:=below_al hb1 (.cells #[.int .i64 (d:Int),.int .i64 64,.int .i64 512,.pointer none] 33 (0,0))
 have lh:w.heap.size≤w1.heap.size:=hb1.size
 generalize w1.alloc (.cells #[.int .i64 (d:Int),.int .i64 64,.int .i64 512,.pointer none] 33 (0,0))=w2 at*
 generalize w1.heap.size=bh at*
 clear hb1 ek ed wk wd hneg hpos c3 c4
 have hfar:farW 512=false:=by decide
 go_cut [56] (fun v w'=>v= .bool false∧w'=w2)
 case first=>
  rcases tk with⟨tk,tk'⟩|⟨⟨tk,tk'⟩,⟨tk1,tk2⟩,tk3,tk4⟩
  all_goals
   go_wp2_with (first
    |(go_at_call 7;(with_reducible refine(HKx.out _).mono ?_);rintro e wx ⟨rfl,rfl⟩)
    |(go_at_call 7;(with_reducible refine(HKy.out _).mono ?_);rintro e wx ⟨rfl,rfl⟩)
    |fail)
   go_meet
   exact⟨rfl,rfl⟩
 case rest=>
 obtain⟨rfl,rfl⟩:=hcut
 clear tk
 by_cases co:ordN y<ordN x
 ·have tord:decide (ordN y<ordN x)=true:=decide_eq_true co
  have ho:ordN y≤ordN x:=Int.le_of_lt co
  replace ho:=Lib.hid ho
  have HCa:=Lib.hid (fun w (hT:Tab w)=>lcall_n (w:=w) (dir:=(d:Int)) (fr:=64) (pt:=512) k3 hy hT hfar)
  have HCb:=Lib.hid (fun w (hT:Tab w)=>lcall_n (w:=w) (dir:=(d:Int)) (fr:=64) (pt:=512) k3 hx hT hfar)
  obtain⟨cH0,cH1,cH2,cH3,fH0,fH1,fH2,fH3,sH⟩:=H0.open4
  ·go_upto_region 10 with(first
    |(go_at_call 7;(with_reducible refine(HKx.out _).mono ?_);rintro e wx ⟨rfl,rfl⟩)
    |(go_at_call 7;(with_reducible refine(HKy.out _).mono ?_);rintro e wx ⟨rfl,rfl⟩)
    |(go_at_call 13;(with_reducible refine(HOx.out _).mono ?_);rintro e wx ⟨rfl,rfl⟩)
    |(go_at_call 13;(with_reducible refine(HOy.out _).mono ?_);rintro e wx ⟨rfl,rfl⟩)
    |(go_at_call 15;(with_reducible refine(HCa.out _ T0).mono ?_);rintro e u3 ⟨b3,f3,s3,tr3,er3,rfl,hc3,hb3⟩)
    |fail)
   have hA3:=below_alloc u3 (.cells #[L64 b3,.int .u8 f3,.int .i64 s3] 38 (0,0))
   have R3:Blk (u3.alloc (.cells #[L64 b3,.int .u8 f3,.int .i64 s3] 38 (0,0))) u3.heap.size #[L64 b3,.int .u8 f3,.int .i64 s3]:=blk_new
   have H3:=(H0.below hb3).below hA3
   have T3:=(T0.below hb3).below hA3
   have B3:=(B0.trans (hb3.mono B0.size)).trans (hA3.mono (Nat.le_trans B0.size hb3.size))
   have lr3:w.heap.size≤u3.heap.size:=Nat.le_trans B0.size hb3.size
   have sh3:bh<u3.heap.size:=(H0.below hb3).1
   change Code.wp _ _ _ _ (u3.alloc (.cells #[L64 b3,.int .u8 f3,.int .i64 s3] 38 (0,0)))
   generalize u3.alloc (.cells #[L64 b3,.int .u8 f3,.int .i64 s3] 38 (0,0))=v3 at*
   generalize u3.heap.size=r3 at*
   clear hA3 hb3
   clear T0 B0 H0 cH0 cH1 cH2 cH3 fH0 fH1 fH2 fH3 sH
   obtain⟨cH0,cH1,cH2,cH3,fH0,fH1,fH2,fH3,sH⟩:=H3.open4
   go_upto_region 11 with(first
    |(go_at_call 15;(with_reducible refine(HCb.out _ T3).mono ?_);rintro e u4 ⟨b4,f4,s4,tr4,er4,rfl,hc4,hb4⟩)
    |fail)
   have hA4:=below_alloc u4 (.cells #[L64 b4,.int .u8 f4,.int .i64 s4] 38 (0,0))
   have R4:Blk (u4.alloc (.cells #[L64 b4,.int .u8 f4,.int .i64 s4] 38 (0,0))) u4.heap.size #[L64 b4,.int .u8 f4,.int .i64 s4]:=blk_new
   have H4:=(H3.below hb4).below hA4
   have R34:=(R3.below hb4).below hA4
   have T4:=(T3.below hb4).below hA4
   have B4:=(B3.trans (hb4.mono B3.size)).trans (hA4.mono (Nat.le_trans B3.size hb4.size))
   have lr4:w.heap.size≤u4.heap.size:=Nat.le_trans B3.size hb4.size
   have sh4:bh<u4.heap.size:=(H3.below hb4).1
   change Code.wp _ _ _ _ (u4.alloc (.cells #[L64 b4,.int .u8 f4,.int .i64 s4] 38 (0,0)))
   generalize u4.alloc (.cells #[L64 b4,.int .u8 f4,.int .i64 s4] 38 (0,0))=v4 at*
   generalize u4.heap.size=r4 at*
   clear hA4 hb4
   clear T3 B3 H3 R3 cH0 cH1 cH2 cH3 fH0 fH1 fH2 fH3 sH HCa HCb
   have er0:=rightW_512 (dir:=(d:Int)) (by omega) (by omega)
   obtain rfl:=callR_er er0 hc3
   obtain rfl:=callR_er er0 hc4
   go_cut [96] (fun v w'=>v= .bool false∧Below v4.heap.size v4 w')
   case first=>
    obtain⟨cP0,cP1,cP2,fP0,fP1,fP2,sP⟩:=R34.open3
    obtain⟨cQ0,cQ1,cQ2,fQ0,fQ1,fQ2,sQ⟩:=R4.open3
    by_cases z3:s3=0
    ·subst z3
     by_cases z4:s4=0
     ·subst z4
      have hle:=call_order k3 hy hx (by omega) (by omega) (by omega) (by omega) ny nx ho.out hc3 hc4
      have hb3':=call_bits k3 hy (by omega) (by omega) (by omega) hc3
      have hb4':=call_bits k3 hx (by omega) (by omega) (by omega) hc4
      have HO3:=Lib.hid (fun w=>order31_n (w:=w) hb3')
      have HO4:=Lib.hid (fun w=>order31_n (w:=w) hb4')
      have hd:decide (ordN b4<ordN b3)=false:=decide_eq_false (by omega)
      go_region_held3 (fun w'=>(w'.cell? ⟨r3,0,none⟩=some (L64 b3)∧w'.cell? ⟨r3,1,none⟩=some (.int .u8 f3)∧w'.cell? ⟨r3,2,none⟩=some (.int .i64 0))∧w'.cell? ⟨r4,0,none⟩=some (L64 b4)∧w'.cell? ⟨r4,1,none⟩=some (.int .u8 f4)∧w'.cell? ⟨r4,2,none⟩=some (.int .i64 0)) (refine cells3b ?_ ?_<;>(repeat' (first|with_reducible assumption|with_reducible exact blk_new|with_reducible exact blk_a2|with_reducible exact Below.refl _ _|with_reducible refine Blk.o1 ?_ ?_ _ _|with_reducible refine Blk.next ?_|with_reducible refine Blk.dr ?_|with_reducible refine bel_dr ?_|with_reducible refine bel_s1 ?_ ?_ _ _|with_reducible refine bel_next ?_|with_reducible refine Rd.s1 ?_ _ _|with_reducible refine RdN.below ?_ (below_alloc _ _)|((try simp only[size_alloc,size_drew,size_set1]);omega))))
       (first
         |(go_at_call 13;(with_reducible refine(HO3.out _).mono ?_);rintro e wx ⟨rfl,rfl⟩)
         |(go_at_call 13;(with_reducible refine(HO4.out _).mono ?_);rintro e wx ⟨rfl,rfl⟩)
         |fail)
      all_goals
       go_wp2_with fail
       go_meet
       exact⟨rfl,below_drewN (Below.refl _ _) _⟩
     ·have z4':(s4==0)=false:=beq_false_of_ne z4
      go_quiet (fail)
      go_wp2_with fail
      go_meet
      exact⟨rfl,below_drewN (Below.refl _ _) _⟩
    ·have z3':(s3==0)=false:=beq_false_of_ne z3
     go_quiet (fail)
     go_wp2_with fail
     go_meet
     exact⟨rfl,below_drewN (Below.refl _ _) _⟩
   case rest=>
    obtain⟨rfl,hcb⟩:=hcut
    generalize hwx:wc=v5 at*
    clear hwx
    have H5:=H4.below hcb
    have T5:=T4.below hcb
    have B5:=B4.trans (hcb.mono B4.size)
    clear H4 T4 B4 R34 R4 hcb hc3 hc4
    have HS:=Lib.hid (fun w=>rspec_n (w:=w) k3 hy)
    obtain⟨⟨sb,sf,si⟩,hsp⟩:∃s,spec31 k y=s:=⟨_,rfl⟩
    rw[hsp]at HS
    dsimp only at HS
    cases si
    ·replace hsp:=Lib.hid (show(spec31 k y).2.2=false by rw[hsp])
     go_upto_region 16 with(first
      |(go_at_call 18;(with_reducible refine(HS.out _).mono ?_);rintro e u6 ⟨rfl,hb6⟩)
      |fail)
     have hA6:=below_alloc u6 (.cells #[L64 sb,.int .i64 sf] 50 (0,0))
     have H6:=(H5.below hb6).below hA6
     have B6:=(B5.trans (hb6.mono B5.size)).trans (hA6.mono (Nat.le_trans B5.size hb6.size))
     generalize u6.alloc (.cells #[L64 sb,.int .i64 sf] 50 (0,0))=v6 at*
     clear hA6 hb6 H5 T5 B5 HS
     have HC3:=Lib.hid (fun w (hT:Tab w)=>lcall_n (w:=w) (dir:=3) (fr:=64) (pt:=512) k3 hy hT hfar)
     have HC2:=Lib.hid (fun w (hT:Tab w)=>lcall_n (w:=w) (dir:=2) (fr:=64) (pt:=512) k3 hy hT hfar)
     have HC0:=Lib.hid (fun w (hT:Tab w)=>lcall_n (w:=w) (dir:=0) (fr:=64) (pt:=512) k3 hy hT hfar)
     obtain⟨cH0,cH1,cH2,cH3,fH0,fH1,fH2,fH3,sH⟩:=H6.open4
     go_upto_region 17 with fail
     have G7:Blk (v6.setCell ⟨bh,0,none⟩ (.int .i64 3)) bh #[.int .i64 3,.int .i64 64,.int .i64 512,.pointer none]:=H6.setAt 0 (.int .i64 3)
     have D7:Below w.heap.size w (v6.setCell ⟨bh,0,none⟩ (.int .i64 3)):=bel_s1 B6 lh 0 _
     change Code.wp _ _ _ _ (v6.setCell ⟨bh,0,none⟩ (.int .i64 3))
     generalize v6.setCell ⟨bh,0,none⟩ (.int .i64 3)=x7 at*
     clear H6 B6 cH0 cH1 cH2 cH3 fH0 fH1 fH2 fH3 sH
     have Tx7:=hT.below D7
     obtain⟨cH0,cH1,cH2,cH3,fH0,fH1,fH2,fH3,sH⟩:=G7.open4
     go_upto_region 18 with(first
      |(go_at_call 15;(with_reducible refine(HC3.out _ Tx7).mono ?_);rintro e u7 ⟨b7,f7,s7,tr7,er7,rfl,hc7,hb7⟩)
      |fail)
     have hA7:=below_alloc u7 (.cells #[L64 b7,.int .u8 f7,.int .i64 s7] 38 (0,0))
     have R7:Blk (u7.alloc (.cells #[L64 b7,.int .u8 f7,.int .i64 s7] 38 (0,0))) u7.heap.size #[L64 b7,.int .u8 f7,.int .i64 s7]:=blk_new
     have H7:=(G7.below hb7).below hA7
     have sh7:bh<u7.heap.size:=(G7.below hb7).1
     have B7:=(D7.trans (hb7.mono D7.size)).trans (hA7.mono (Nat.le_trans D7.size hb7.size))
     change Code.wp _ _ _ _ (u7.alloc (.cells #[L64 b7,.int .u8 f7,.int .i64 s7] 38 (0,0)))
     generalize u7.alloc (.cells #[L64 b7,.int .u8 f7,.int .i64 s7] 38 (0,0))=v7 at*
     generalize u7.heap.size=r7 at*
     clear hA7 hb7 G7 D7 Tx7 cH0 cH1 cH2 cH3 fH0 fH1 fH2 fH3 sH HC3
     obtain⟨cH0,cH1,cH2,cH3,fH0,fH1,fH2,fH3,sH⟩:=H7.open4
     go_upto_region 19 with fail
     have G8:Blk (v7.setCell ⟨bh,0,none⟩ (.int .i64 2)) bh #[.int .i64 2,.int .i64 64,.int .i64 512,.pointer none]:=H7.setAt 0 (.int .i64 2)
     have D8:Below w.heap.size w (v7.setCell ⟨bh,0,none⟩ (.int .i64 2)):=bel_s1 B7 lh 0 _
     have SR78:=R7.o1 (show r7≠bh by omega) 0 (.int .i64 2)
     change Code.wp _ _ _ _ (v7.setCell ⟨bh,0,none⟩ (.int .i64 2))
     generalize v7.setCell ⟨bh,0,none⟩ (.int .i64 2)=x8 at*
     clear H7 B7 cH0 cH1 cH2 cH3 fH0 fH1 fH2 fH3 sH R7
     have Tx8:=hT.below D8
     obtain⟨cH0,cH1,cH2,cH3,fH0,fH1,fH2,fH3,sH⟩:=G8.open4
     go_upto_region 20 with(first
      |(go_at_call 15;(with_reducible refine(HC2.out _ Tx8).mono ?_);rintro e u8 ⟨b8,f8,s8,tr8,er8,rfl,hc8,hb8⟩)
      |fail)
     have hA8:=below_alloc u8 (.cells #[L64 b8,.int .u8 f8,.int .i64 s8] 38 (0,0))
     have R8:Blk (u8.alloc (.cells #[L64 b8,.int .u8 f8,.int .i64 s8] 38 (0,0))) u8.heap.size #[L64 b8,.int .u8 f8,.int .i64 s8]:=blk_new
     have H8:=(G8.below hb8).below hA8
     have sh8:bh<u8.heap.size:=(G8.below hb8).1
     have B8:=(D8.trans (hb8.mono D8.size)).trans (hA8.mono (Nat.le_trans D8.size hb8.size))
     have R78:=(SR78.below hb8).below hA8
     change Code.wp _ _ _ _ (u8.alloc (.cells #[L64 b8,.int .u8 f8,.int .i64 s8] 38 (0,0)))
     generalize u8.alloc (.cells #[L64 b8,.int .u8 f8,.int .i64 s8] 38 (0,0))=v8 at*
     generalize u8.heap.size=r8 at*
     clear hA8 hb8 G8 D8 Tx8 cH0 cH1 cH2 cH3 fH0 fH1 fH2 fH3 sH HC2 SR78
     obtain⟨cH0,cH1,cH2,cH3,fH0,fH1,fH2,fH3,sH⟩:=H8.open4
     go_upto_region 21 with fail
     have G9:Blk (v8.setCell ⟨bh,0,none⟩ (.int .i64 0)) bh #[.int .i64 0,.int .i64 64,.int .i64 512,.pointer none]:=H8.setAt 0 (.int .i64 0)
     have D9:Below w.heap.size w (v8.setCell ⟨bh,0,none⟩ (.int .i64 0)):=bel_s1 B8 lh 0 _
     have SR789:=R78.o1 (show r7≠bh by omega) 0 (.int .i64 0)
     have SR89:=R8.o1 (show r8≠bh by omega) 0 (.int .i64 0)
     change Code.wp _ _ _ _ (v8.setCell ⟨bh,0,none⟩ (.int .i64 0))
     generalize v8.setCell ⟨bh,0,none⟩ (.int .i64 0)=x9 at*
     clear H8 B8 cH0 cH1 cH2 cH3 fH0 fH1 fH2 fH3 sH R78 R8
     have Tx9:=hT.below D9
     obtain⟨cH0,cH1,cH2,cH3,fH0,fH1,fH2,fH3,sH⟩:=G9.open4
     go_upto_region 22 with(first
      |(go_at_call 15;(with_reducible refine(HC0.out _ Tx9).mono ?_);rintro e u9 ⟨b9,f9,s9,tr9,er9,rfl,hc9,hb9⟩)
      |fail)
     have hA9:=below_alloc u9 (.cells #[L64 b9,.int .u8 f9,.int .i64 s9] 38 (0,0))
     have R9:Blk (u9.alloc (.cells #[L64 b9,.int .u8 f9,.int .i64 s9] 38 (0,0))) u9.heap.size #[L64 b9,.int .u8 f9,.int .i64 s9]:=blk_new
     have H9:=(G9.below hb9).below hA9
     have sh9:bh<u9.heap.size:=(G9.below hb9).1
     have B9:=(D9.trans (hb9.mono D9.size)).trans (hA9.mono (Nat.le_trans D9.size hb9.size))
     have R789:=(SR789.below hb9).below hA9
     have R89:=(SR89.below hb9).below hA9
     change Code.wp _ _ _ _ (u9.alloc (.cells #[L64 b9,.int .u8 f9,.int .i64 s9] 38 (0,0)))
     generalize u9.alloc (.cells #[L64 b9,.int .u8 f9,.int .i64 s9] 38 (0,0))=v9 at*
     generalize u9.heap.size=r9 at*
     clear hA9 hb9 G9 D9 Tx9 cH0 cH1 cH2 cH3 fH0 fH1 fH2 fH3 sH HC0 SR789 SR89
     obtain rfl:=callR_er (rightW_512 (by decide) (by decide)) hc7
     obtain rfl:=callR_er (rightW_512 (by decide) (by decide)) hc8
     obtain rfl:=callR_er (rightW_512 (by decide) (by decide)) hc9
     obtain⟨cP0,cP1,cP2,fP0,fP1,fP2,sP⟩:=R789.open3
     obtain⟨cQ0,cQ1,cQ2,fQ0,fQ1,fQ2,sQ⟩:=R89.open3
     obtain⟨cR0,cR1,cR2,fR0,fR1,fR2,sR⟩:=R9.open3
     by_cases z7:s7=0
     ·by_cases z8:s8=0
      ·by_cases z9:s9=0
       ·subst z7 z8 z9
        obtain⟨hsub,hor,l7,l8⟩:=call_dirs k3 hy (by omega) ny hsp.out hc7 hc8 hc9
        have g7:=call_bits k3 hy (by omega) (by decide) (by decide) hc7
        have g8:=call_bits k3 hy (by omega) (by decide) (by decide) hc8
        have HO7:=Lib.hid (fun w=>order31_n (w:=w) g7)
        have HO8:=Lib.hid (fun w=>order31_n (w:=w) g8)
        have HW:=Lib.hid (fun w v (h:RdN w v [b8,b7])=>worst2_n (w:=w) h g8 g7 (size_kind l8) (size_kind l7))
        have sw:IntKind.i64.wrap (ordN b8-ordN b7)=1:=by rw[hsub];decide
        go_upto_region 24 with fail
        clear hc7 hc8 hc9 l7 l8 hsub
        by_cases zn:b9=b8
        ·subst zn
         refine wp_region_held_drew (S:=(fun w'=>(w'.cell? ⟨r7,0,none⟩=some (L64 b7)∧w'.cell? ⟨r7,1,none⟩=some (.int .u8 f7)∧w'.cell? ⟨r7,2,none⟩=some (.int .i64 0))∧(w'.cell? ⟨r8,0,none⟩=some (L64 b9)∧w'.cell? ⟨r8,1,none⟩=some (.int .u8 f8)∧w'.cell? ⟨r8,2,none⟩=some (.int .i64 0))∧w'.cell? ⟨r9,0,none⟩=some (L64 b9)∧w'.cell? ⟨r9,1,none⟩=some (.int .u8 f9)∧w'.cell? ⟨r9,2,none⟩=some (.int .i64 0))) (by kernel_rfl) ?_ (fun hHeld=>?_)
         ·(try dsimp only);refine cells3c R789.dr R89.dr R9.dr
         repeat((first|(refine tk8 (v:=?_) 0 rfl (fun _ _ _ h=>h) hHeld ?_ ?_ ?_ ?_;rotate_left;rfl;kernel_rfl)|(refine tk8 (v:=?_) 1 rfl (fun _ _ _ h=>h) hHeld ?_ ?_ ?_ ?_;rotate_left;rfl;kernel_rfl)|(refine tk8 (v:=?_) 3 rfl (fun _ _ _ h=>h) hHeld ?_ ?_ ?_ ?_;rotate_left;rfl;kernel_rfl)|(refine tk8 (v:=?_) 4 rfl (fun _ _ _ h=>h) hHeld ?_ ?_ ?_ ?_;rotate_left;rfl;kernel_rfl));focus(intro w hSw;(try dsimp only at hSw);go_simp;(try with_reducible rfl));(try simp only[Act.put,List.setIfInBounds_toArray,List.set_cons_zero,List.set_cons_succ]))
         refine wpAnyH_ready (rs:=[2]) (by kernel_rfl) (by simp) ?_
         refine AllReadyH.cons (getOf8 rfl) (fun K hK=>?_) AllReadyH.nil
         go_simp
         go_at_call 13;(with_reducible refine(HO8.out _).mono ?_);rintro e wx ⟨rfl,rfl⟩
         (try(go_wp2_with fail))
         refine hK.out _ _ ?_ (fun hHeld2=>?_)
         ·(try dsimp only);refine cells3c ?_ ?_ ?_<;>(repeat' (first|with_reducible assumption|with_reducible exact blk_new|with_reducible exact blk_a2|with_reducible exact Below.refl _ _|with_reducible refine Blk.o1 ?_ ?_ _ _|with_reducible refine Blk.next ?_|with_reducible refine Blk.dr ?_|with_reducible refine bel_dr ?_|with_reducible refine bel_s1 ?_ ?_ _ _|with_reducible refine bel_next ?_|with_reducible refine Rd.s1 ?_ _ _|with_reducible refine RdN.below ?_ (below_alloc _ _)|((try simp only[size_alloc,size_drew,size_set1]);omega)))
         clear hK K hHeld
         have hHeld:=hHeld2
         clear hHeld2
         (try simp only[Act.put,List.setIfInBounds_toArray,List.set_cons_zero,List.set_cons_succ])
         refine wpAnyH_ready (rs:=[5]) (by kernel_rfl) (by simp) ?_
         refine AllReadyH.cons (getOf8 rfl) (fun K hK=>?_) AllReadyH.nil
         go_simp
         go_at_call 13;(with_reducible refine(HO7.out _).mono ?_);rintro e wx ⟨rfl,rfl⟩
         (try(go_wp2_with fail))
         refine hK.out _ _ ?_ (fun hHeld2=>?_)
         ·(try dsimp only);refine cells3c ?_ ?_ ?_<;>(repeat' (first|with_reducible assumption|with_reducible exact blk_new|with_reducible exact blk_a2|with_reducible exact Below.refl _ _|with_reducible refine Blk.o1 ?_ ?_ _ _|with_reducible refine Blk.next ?_|with_reducible refine Blk.dr ?_|with_reducible refine bel_dr ?_|with_reducible refine bel_s1 ?_ ?_ _ _|with_reducible refine bel_next ?_|with_reducible refine Rd.s1 ?_ _ _|with_reducible refine RdN.below ?_ (below_alloc _ _)|((try simp only[size_alloc,size_drew,size_set1]);omega)))
         clear hK K hHeld
         have hHeld:=hHeld2
         clear hHeld2
         (try simp only[Act.put,List.setIfInBounds_toArray,List.set_cons_zero,List.set_cons_succ])
         repeat((first|(refine tk8 (v:=?_) 6 rfl (fun _ _ _ h=>h) hHeld ?_ ?_ ?_ ?_;rotate_left;rfl;kernel_rfl)|(refine tk8 (v:=?_) 7 rfl (fun _ _ _ h=>h) hHeld ?_ ?_ ?_ ?_;rotate_left;rfl;kernel_rfl)|(refine tk8 (v:=?_) 8 rfl (fun _ _ _ h=>h) hHeld ?_ ?_ ?_ ?_;rotate_left;rfl;kernel_rfl)|(refine tk8 (v:=?_) 9 rfl (fun _ _ _ h=>h) hHeld ?_ ?_ ?_ ?_;rotate_left;rfl;kernel_rfl)|(refine tk8 (v:=?_) 10 rfl (fun _ _ _ h=>h) hHeld ?_ ?_ ?_ ?_;rotate_left;rfl;kernel_rfl)|(refine tk8 (v:=?_) 11 rfl (fun _ _ _ h=>h) hHeld ?_ ?_ ?_ ?_;rotate_left;rfl;kernel_rfl)|(refine tk8 (v:=?_) 12 rfl (fun _ _ _ h=>h) hHeld ?_ ?_ ?_ ?_;rotate_left;rfl;kernel_rfl)|(refine tk8 (v:=?_) 13 rfl (fun _ _ _ h=>h) hHeld ?_ ?_ ?_ ?_;rotate_left;rfl;kernel_rfl)|(refine tk8 (v:=?_) 14 rfl (fun _ _ _ h=>h) hHeld ?_ ?_ ?_ ?_;rotate_left;rfl;kernel_rfl));focus(intro w hSw;(try dsimp only at hSw);go_simp;(try with_reducible rfl));(try simp only[Act.put,List.setIfInBounds_toArray,List.set_cons_zero,List.set_cons_succ]))
         repeat((first|(refine tn8 15 rfl (fun _ _ _ h=>h) hHeld ?_ ?_ ?_;rfl;kernel_rfl)|(refine tn8 16 rfl (fun _ _ _ h=>h) hHeld ?_ ?_ ?_;rfl;kernel_rfl)|(refine tn8 17 rfl (fun _ _ _ h=>h) hHeld ?_ ?_ ?_;rfl;kernel_rfl)|(refine tn8 18 rfl (fun _ _ _ h=>h) hHeld ?_ ?_ ?_;rfl;kernel_rfl)|(refine tn8 19 rfl (fun _ _ _ h=>h) hHeld ?_ ?_ ?_;rfl;kernel_rfl));(try simp only[Act.put,List.setIfInBounds_toArray,List.set_cons_zero,List.set_cons_succ]))
         repeat((first|(refine tk8 (v:=?_) 20 rfl (fun _ _ _ h=>h) hHeld ?_ ?_ ?_ ?_;rotate_left;rfl;kernel_rfl)|(refine tk8 (v:=?_) 21 rfl (fun _ _ _ h=>h) hHeld ?_ ?_ ?_ ?_;rotate_left;rfl;kernel_rfl)|(refine tk8 (v:=?_) 22 rfl (fun _ _ _ h=>h) hHeld ?_ ?_ ?_ ?_;rotate_left;rfl;kernel_rfl)|(refine tk8 (v:=?_) 23 rfl (fun _ _ _ h=>h) hHeld ?_ ?_ ?_ ?_;rotate_left;rfl;kernel_rfl)|(refine tk8 (v:=?_) 24 rfl (fun _ _ _ h=>h) hHeld ?_ ?_ ?_ ?_;rotate_left;rfl;kernel_rfl)|(refine tk8 (v:=?_) 25 rfl (fun _ _ _ h=>h) hHeld ?_ ?_ ?_ ?_;rotate_left;rfl;kernel_rfl)|(refine tk8 (v:=?_) 26 rfl (fun _ _ _ h=>h) hHeld ?_ ?_ ?_ ?_;rotate_left;rfl;kernel_rfl));focus(intro w hSw;(try dsimp only at hSw);go_simp;(try with_reducible rfl));(try simp only[Act.put,List.setIfInBounds_toArray,List.set_cons_zero,List.set_cons_succ]))
         refine wpAnyH_ready (rs:=[27]) (by kernel_rfl) (by simp) ?_
         refine AllReadyH.cons (getOf8 rfl) (fun K hK=>?_) AllReadyH.nil
         go_simp
         skip
         (try(go_wp2_with fail))
         refine hK.out _ _ ?_ (fun hHeld2=>?_)
         ·(try dsimp only);refine cells3c ?_ ?_ ?_<;>(repeat' (first|with_reducible assumption|with_reducible exact blk_new|with_reducible exact blk_a2|with_reducible exact Below.refl _ _|with_reducible refine Blk.o1 ?_ ?_ _ _|with_reducible refine Blk.next ?_|with_reducible refine Blk.dr ?_|with_reducible refine bel_dr ?_|with_reducible refine bel_s1 ?_ ?_ _ _|with_reducible refine bel_next ?_|with_reducible refine Rd.s1 ?_ _ _|with_reducible refine RdN.below ?_ (below_alloc _ _)|((try simp only[size_alloc,size_drew,size_set1]);omega)))
         clear hK K hHeld
         have hHeld:=hHeld2
         clear hHeld2
         (try simp only[Act.put,List.setIfInBounds_toArray,List.set_cons_zero,List.set_cons_succ])
         refine wpAnyH_ready (rs:=[28]) (by kernel_rfl) (by simp) ?_
         refine AllReadyH.cons (getOf8 rfl) (fun K hK=>?_) AllReadyH.nil
         go_simp
         go_at_call 19;(with_reducible refine(HW.out _ _ (rdN_dr (rd_two (heap_alloc_new _ _)))).mono ?_);rintro e wx ⟨rfl,rfl⟩
         (try(go_wp2_with fail))
         refine hK.out _ _ ?_ (fun hHeld2=>?_)
         ·(try dsimp only);refine cells3c ?_ ?_ ?_<;>(repeat' (first|with_reducible assumption|with_reducible exact blk_new|with_reducible exact blk_a2|with_reducible exact Below.refl _ _|with_reducible refine Blk.o1 ?_ ?_ _ _|with_reducible refine Blk.next ?_|with_reducible refine Blk.dr ?_|with_reducible refine bel_dr ?_|with_reducible refine bel_s1 ?_ ?_ _ _|with_reducible refine bel_next ?_|with_reducible refine Rd.s1 ?_ _ _|with_reducible refine RdN.below ?_ (below_alloc _ _)|((try simp only[size_alloc,size_drew,size_set1]);omega)))
         clear hK K hHeld
         have hHeld:=hHeld2
         clear hHeld2
         (try simp only[Act.put,List.setIfInBounds_toArray,List.set_cons_zero,List.set_cons_succ])
         repeat((first|(refine tk8 (v:=?_) 29 rfl (fun _ _ _ h=>h) hHeld ?_ ?_ ?_ ?_;rotate_left;rfl;kernel_rfl)|(refine tk8 (v:=?_) 30 rfl (fun _ _ _ h=>h) hHeld ?_ ?_ ?_ ?_;rotate_left;rfl;kernel_rfl)|(refine tk8 (v:=?_) 31 rfl (fun _ _ _ h=>h) hHeld ?_ ?_ ?_ ?_;rotate_left;rfl;kernel_rfl));focus(intro w hSw;(try dsimp only at hSw);go_simp;(try with_reducible rfl));(try simp only[Act.put,List.setIfInBounds_toArray,List.set_cons_zero,List.set_cons_succ]))
         refine wpAnyH_done (by kernel_rfl) ?_ _
         go_wp2_with fail
         go_ret
         exact⟨rfl,by(repeat' (first|with_reducible assumption|with_reducible exact blk_new|with_reducible exact blk_a2|with_reducible exact Below.refl _ _|with_reducible refine Blk.o1 ?_ ?_ _ _|with_reducible refine Blk.next ?_|with_reducible refine Blk.dr ?_|with_reducible refine bel_dr ?_|with_reducible refine bel_s1 ?_ ?_ _ _|with_reducible refine bel_next ?_|with_reducible refine Rd.s1 ?_ _ _|with_reducible refine RdN.below ?_ (below_alloc _ _)|((try simp only[size_alloc,size_drew,size_set1]);omega)))⟩
        ·obtain rfl:b9=b7:=hor.resolve_left zn
         have zn1:((b9:Int)==(b8:Int))=false:=beq_false_of_ne (by omega)
         have zn2:(b9==b8)=false:=beq_false_of_ne zn
         refine wp_region_held_drew (S:=(fun w'=>(w'.cell? ⟨r7,0,none⟩=some (L64 b9)∧w'.cell? ⟨r7,1,none⟩=some (.int .u8 f7)∧w'.cell? ⟨r7,2,none⟩=some (.int .i64 0))∧(w'.cell? ⟨r8,0,none⟩=some (L64 b8)∧w'.cell? ⟨r8,1,none⟩=some (.int .u8 f8)∧w'.cell? ⟨r8,2,none⟩=some (.int .i64 0))∧w'.cell? ⟨r9,0,none⟩=some (L64 b9)∧w'.cell? ⟨r9,1,none⟩=some (.int .u8 f9)∧w'.cell? ⟨r9,2,none⟩=some (.int .i64 0))) (by kernel_rfl) ?_ (fun hHeld=>?_)
         ·(try dsimp only);refine cells3c R789.dr R89.dr R9.dr
         repeat((first|(refine tk8 (v:=?_) 0 rfl (fun _ _ _ h=>h) hHeld ?_ ?_ ?_ ?_;rotate_left;rfl;kernel_rfl)|(refine tk8 (v:=?_) 1 rfl (fun _ _ _ h=>h) hHeld ?_ ?_ ?_ ?_;rotate_left;rfl;kernel_rfl)|(refine tk8 (v:=?_) 3 rfl (fun _ _ _ h=>h) hHeld ?_ ?_ ?_ ?_;rotate_left;rfl;kernel_rfl)|(refine tk8 (v:=?_) 4 rfl (fun _ _ _ h=>h) hHeld ?_ ?_ ?_ ?_;rotate_left;rfl;kernel_rfl));focus(intro w hSw;(try dsimp only at hSw);go_simp;(try with_reducible rfl));(try simp only[Act.put,List.setIfInBounds_toArray,List.set_cons_zero,List.set_cons_succ]))
         refine wpAnyH_ready (rs:=[2]) (by kernel_rfl) (by simp) ?_
         refine AllReadyH.cons (getOf8 rfl) (fun K hK=>?_) AllReadyH.nil
         go_simp
         go_at_call 13;(with_reducible refine(HO8.out _).mono ?_);rintro e wx ⟨rfl,rfl⟩
         (try(go_wp2_with fail))
         refine hK.out _ _ ?_ (fun hHeld2=>?_)
         ·(try dsimp only);refine cells3c ?_ ?_ ?_<;>(repeat' (first|with_reducible assumption|with_reducible exact blk_new|with_reducible exact blk_a2|with_reducible exact Below.refl _ _|with_reducible refine Blk.o1 ?_ ?_ _ _|with_reducible refine Blk.next ?_|with_reducible refine Blk.dr ?_|with_reducible refine bel_dr ?_|with_reducible refine bel_s1 ?_ ?_ _ _|with_reducible refine bel_next ?_|with_reducible refine Rd.s1 ?_ _ _|with_reducible refine RdN.below ?_ (below_alloc _ _)|((try simp only[size_alloc,size_drew,size_set1]);omega)))
         clear hK K hHeld
         have hHeld:=hHeld2
         clear hHeld2
         (try simp only[Act.put,List.setIfInBounds_toArray,List.set_cons_zero,List.set_cons_succ])
         refine wpAnyH_ready (rs:=[5]) (by kernel_rfl) (by simp) ?_
         refine AllReadyH.cons (getOf8 rfl) (fun K hK=>?_) AllReadyH.nil
         go_simp
         go_at_call 13;(with_reducible refine(HO7.out _).mono ?_);rintro e wx ⟨rfl,rfl⟩
         (try(go_wp2_with fail))
         refine hK.out _ _ ?_ (fun hHeld2=>?_)
         ·(try dsimp only);refine cells3c ?_ ?_ ?_<;>(repeat' (first|with_reducible assumption|with_reducible exact blk_new|with_reducible exact blk_a2|with_reducible exact Below.refl _ _|with_reducible refine Blk.o1 ?_ ?_ _ _|with_reducible refine Blk.next ?_|with_reducible refine Blk.dr ?_|with_reducible refine bel_dr ?_|with_reducible refine bel_s1 ?_ ?_ _ _|with_reducible refine bel_next ?_|with_reducible refine Rd.s1 ?_ _ _|with_reducible refine RdN.below ?_ (below_alloc _ _)|((try simp only[size_alloc,size_drew,size_set1]);omega)))
         clear hK K hHeld
         have hHeld:=hHeld2
         clear hHeld2
         (try simp only[Act.put,List.setIfInBounds_toArray,List.set_cons_zero,List.set_cons_succ])
         repeat((first|(refine tk8 (v:=?_) 6 rfl (fun _ _ _ h=>h) hHeld ?_ ?_ ?_ ?_;rotate_left;rfl;kernel_rfl)|(refine tk8 (v:=?_) 7 rfl (fun _ _ _ h=>h) hHeld ?_ ?_ ?_ ?_;rotate_left;rfl;kernel_rfl)|(refine tk8 (v:=?_) 8 rfl (fun _ _ _ h=>h) hHeld ?_ ?_ ?_ ?_;rotate_left;rfl;kernel_rfl)|(refine tk8 (v:=?_) 9 rfl (fun _ _ _ h=>h) hHeld ?_ ?_ ?_ ?_;rotate_left;rfl;kernel_rfl)|(refine tk8 (v:=?_) 10 rfl (fun _ _ _ h=>h) hHeld ?_ ?_ ?_ ?_;rotate_left;rfl;kernel_rfl)|(refine tk8 (v:=?_) 11 rfl (fun _ _ _ h=>h) hHeld ?_ ?_ ?_ ?_;rotate_left;rfl;kernel_rfl)|(refine tk8 (v:=?_) 12 rfl (fun _ _ _ h=>h) hHeld ?_ ?_ ?_ ?_;rotate_left;rfl;kernel_rfl)|(refine tk8 (v:=?_) 13 rfl (fun _ _ _ h=>h) hHeld ?_ ?_ ?_ ?_;rotate_left;rfl;kernel_rfl)|(refine tk8 (v:=?_) 14 rfl (fun _ _ _ h=>h) hHeld ?_ ?_ ?_ ?_;rotate_left;rfl;kernel_rfl));focus(intro w hSw;(try dsimp only at hSw);go_simp;(try with_reducible rfl));(try simp only[Act.put,List.setIfInBounds_toArray,List.set_cons_zero,List.set_cons_succ]))
         repeat((first|(refine tk8 (v:=?_) 15 rfl (fun _ _ _ h=>h) hHeld ?_ ?_ ?_ ?_;rotate_left;rfl;kernel_rfl)|(refine tk8 (v:=?_) 16 rfl (fun _ _ _ h=>h) hHeld ?_ ?_ ?_ ?_;rotate_left;rfl;kernel_rfl)|(refine tk8 (v:=?_) 17 rfl (fun _ _ _ h=>h) hHeld ?_ ?_ ?_ ?_;rotate_left;rfl;kernel_rfl)|(refine tk8 (v:=?_) 18 rfl (fun _ _ _ h=>h) hHeld ?_ ?_ ?_ ?_;rotate_left;rfl;kernel_rfl)|(refine tk8 (v:=?_) 19 rfl (fun _ _ _ h=>h) hHeld ?_ ?_ ?_ ?_;rotate_left;rfl;kernel_rfl)|(refine tk8 (v:=?_) 20 rfl (fun _ _ _ h=>h) hHeld ?_ ?_ ?_ ?_;rotate_left;rfl;kernel_rfl)|(refine tk8 (v:=?_) 21 rfl (fun _ _ _ h=>h) hHeld ?_ ?_ ?_ ?_;rotate_left;rfl;kernel_rfl)|(refine tk8 (v:=?_) 22 rfl (fun _ _ _ h=>h) hHeld ?_ ?_ ?_ ?_;rotate_left;rfl;kernel_rfl)|(refine tk8 (v:=?_) 23 rfl (fun _ _ _ h=>h) hHeld ?_ ?_ ?_ ?_;rotate_left;rfl;kernel_rfl)|(refine tk8 (v:=?_) 24 rfl (fun _ _ _ h=>h) hHeld ?_ ?_ ?_ ?_;rotate_left;rfl;kernel_rfl)|(refine tk8 (v:=?_) 25 rfl (fun _ _ _ h=>h) hHeld ?_ ?_ ?_ ?_;rotate_left;rfl;kernel_rfl)|(refine tk8 (v:=?_) 26 rfl (fun _ _ _ h=>h) hHeld ?_ ?_ ?_ ?_;rotate_left;rfl;kernel_rfl));focus(intro w hSw;(try dsimp only at hSw);go_simp;(try with_reducible rfl));(try simp only[Act.put,List.setIfInBounds_toArray,List.set_cons_zero,List.set_cons_succ]))
         refine wpAnyH_ready (rs:=[27]) (by kernel_rfl) (by simp) ?_
         refine AllReadyH.cons (getOf8 rfl) (fun K hK=>?_) AllReadyH.nil
         go_simp
         skip
         (try(go_wp2_with fail))
         refine hK.out _ _ ?_ (fun hHeld2=>?_)
         ·(try dsimp only);refine cells3c ?_ ?_ ?_<;>(repeat' (first|with_reducible assumption|with_reducible exact blk_new|with_reducible exact blk_a2|with_reducible exact Below.refl _ _|with_reducible refine Blk.o1 ?_ ?_ _ _|with_reducible refine Blk.next ?_|with_reducible refine Blk.dr ?_|with_reducible refine bel_dr ?_|with_reducible refine bel_s1 ?_ ?_ _ _|with_reducible refine bel_next ?_|with_reducible refine Rd.s1 ?_ _ _|with_reducible refine RdN.below ?_ (below_alloc _ _)|((try simp only[size_alloc,size_drew,size_set1]);omega)))
         clear hK K hHeld
         have hHeld:=hHeld2
         clear hHeld2
         (try simp only[Act.put,List.setIfInBounds_toArray,List.set_cons_zero,List.set_cons_succ])
         refine wpAnyH_ready (rs:=[28]) (by kernel_rfl) (by simp) ?_
         refine AllReadyH.cons (getOf8 rfl) (fun K hK=>?_) AllReadyH.nil
         go_simp
         go_at_call 19;(with_reducible refine(HW.out _ _ (rdN_dr (rd_two (heap_alloc_new _ _)))).mono ?_);rintro e wx ⟨rfl,rfl⟩
         (try(go_wp2_with fail))
         refine hK.out _ _ ?_ (fun hHeld2=>?_)
         ·(try dsimp only);refine cells3c ?_ ?_ ?_<;>(repeat' (first|with_reducible assumption|with_reducible exact blk_new|with_reducible exact blk_a2|with_reducible exact Below.refl _ _|with_reducible refine Blk.o1 ?_ ?_ _ _|with_reducible refine Blk.next ?_|with_reducible refine Blk.dr ?_|with_reducible refine bel_dr ?_|with_reducible refine bel_s1 ?_ ?_ _ _|with_reducible refine bel_next ?_|with_reducible refine Rd.s1 ?_ _ _|with_reducible refine RdN.below ?_ (below_alloc _ _)|((try simp only[size_alloc,size_drew,size_set1]);omega)))
         clear hK K hHeld
         have hHeld:=hHeld2
         clear hHeld2
         (try simp only[Act.put,List.setIfInBounds_toArray,List.set_cons_zero,List.set_cons_succ])
         repeat((first|(refine tk8 (v:=?_) 29 rfl (fun _ _ _ h=>h) hHeld ?_ ?_ ?_ ?_;rotate_left;rfl;kernel_rfl)|(refine tk8 (v:=?_) 30 rfl (fun _ _ _ h=>h) hHeld ?_ ?_ ?_ ?_;rotate_left;rfl;kernel_rfl)|(refine tk8 (v:=?_) 31 rfl (fun _ _ _ h=>h) hHeld ?_ ?_ ?_ ?_;rotate_left;rfl;kernel_rfl));focus(intro w hSw;(try dsimp only at hSw);go_simp;(try with_reducible rfl));(try simp only[Act.put,List.setIfInBounds_toArray,List.set_cons_zero,List.set_cons_succ]))
         refine wpAnyH_done (by kernel_rfl) ?_ _
         go_wp2_with fail
         go_ret
         exact⟨rfl,by(repeat' (first|with_reducible assumption|with_reducible exact blk_new|with_reducible exact blk_a2|with_reducible exact Below.refl _ _|with_reducible refine Blk.o1 ?_ ?_ _ _|with_reducible refine Blk.next ?_|with_reducible refine Blk.dr ?_|with_reducible refine bel_dr ?_|with_reducible refine bel_s1 ?_ ?_ _ _|with_reducible refine bel_next ?_|with_reducible refine Rd.s1 ?_ _ _|with_reducible refine RdN.below ?_ (below_alloc _ _)|((try simp only[size_alloc,size_drew,size_set1]);omega)))⟩
       ·have z9':(s9 !=0)=true:=by rw[bne_iff_ne];exact z9
        subst z7 z8
        go_wp2_with fail
        go_ret
        exact⟨rfl,by assumption⟩
      ·have z8':(s8 !=0)=true:=by rw[bne_iff_ne];exact z8
       subst z7
       go_wp2_with fail
       go_ret
       exact⟨rfl,by assumption⟩
     ·have z7':(s7 !=0)=true:=by rw[bne_iff_ne];exact z7
      go_wp2_with fail
      go_ret
      exact⟨rfl,by assumption⟩
    ·go_wp2_with (first
      |(go_at_call 18;(with_reducible refine(HS.out _).mono ?_);rintro e v6 ⟨rfl,hb6⟩;have B6:=B5.trans (hb6.mono B5.size))
      |fail)
     go_ret
     exact⟨rfl,below_al B6 _⟩
 ·have tord:decide (ordN y<ordN x)=false:=decide_eq_false co
  have ho:ordN x≤ordN y:=by omega
  replace ho:=Lib.hid ho
  have HCa:=Lib.hid (fun w (hT:Tab w)=>lcall_n (w:=w) (dir:=(d:Int)) (fr:=64) (pt:=512) k3 hx hT hfar)
  have HCb:=Lib.hid (fun w (hT:Tab w)=>lcall_n (w:=w) (dir:=(d:Int)) (fr:=64) (pt:=512) k3 hy hT hfar)
  obtain⟨cH0,cH1,cH2,cH3,fH0,fH1,fH2,fH3,sH⟩:=H0.open4
  ·go_upto_region 10 with(first
    |(go_at_call 7;(with_reducible refine(HKx.out _).mono ?_);rintro e wx ⟨rfl,rfl⟩)
    |(go_at_call 7;(with_reducible refine(HKy.out _).mono ?_);rintro e wx ⟨rfl,rfl⟩)
    |(go_at_call 13;(with_reducible refine(HOx.out _).mono ?_);rintro e wx ⟨rfl,rfl⟩)
    |(go_at_call 13;(with_reducible refine(HOy.out _).mono ?_);rintro e wx ⟨rfl,rfl⟩)
    |(go_at_call 15;(with_reducible refine(HCa.out _ T0).mono ?_);rintro e u3 ⟨b3,f3,s3,tr3,er3,rfl,hc3,hb3⟩)
    |fail)
   have hA3:=below_alloc u3 (.cells #[L64 b3,.int .u8 f3,.int .i64 s3] 38 (0,0))
   have R3:Blk (u3.alloc (.cells #[L64 b3,.int .u8 f3,.int .i64 s3] 38 (0,0))) u3.heap.size #[L64 b3,.int .u8 f3,.int .i64 s3]:=blk_new
   have H3:=(H0.below hb3).below hA3
   have T3:=(T0.below hb3).below hA3
   have B3:=(B0.trans (hb3.mono B0.size)).trans (hA3.mono (Nat.le_trans B0.size hb3.size))
   have lr3:w.heap.size≤u3.heap.size:=Nat.le_trans B0.size hb3.size
   have sh3:bh<u3.heap.size:=(H0.below hb3).1
   change Code.wp _ _ _ _ (u3.alloc (.cells #[L64 b3,.int .u8 f3,.int .i64 s3] 38 (0,0)))
   generalize u3.alloc (.cells #[L64 b3,.int .u8 f3,.int .i64 s3] 38 (0,0))=v3 at*
   generalize u3.heap.size=r3 at*
   clear hA3 hb3
   clear T0 B0 H0 cH0 cH1 cH2 cH3 fH0 fH1 fH2 fH3 sH
   obtain⟨cH0,cH1,cH2,cH3,fH0,fH1,fH2,fH3,sH⟩:=H3.open4
   go_upto_region 11 with(first
    |(go_at_call 15;(with_reducible refine(HCb.out _ T3).mono ?_);rintro e u4 ⟨b4,f4,s4,tr4,er4,rfl,hc4,hb4⟩)
    |fail)
   have hA4:=below_alloc u4 (.cells #[L64 b4,.int .u8 f4,.int .i64 s4] 38 (0,0))
   have R4:Blk (u4.alloc (.cells #[L64 b4,.int .u8 f4,.int .i64 s4] 38 (0,0))) u4.heap.size #[L64 b4,.int .u8 f4,.int .i64 s4]:=blk_new
   have H4:=(H3.below hb4).below hA4
   have R34:=(R3.below hb4).below hA4
   have T4:=(T3.below hb4).below hA4
   have B4:=(B3.trans (hb4.mono B3.size)).trans (hA4.mono (Nat.le_trans B3.size hb4.size))
   have lr4:w.heap.size≤u4.heap.size:=Nat.le_trans B3.size hb4.size
   have sh4:bh<u4.heap.size:=(H3.below hb4).1
   change Code.wp _ _ _ _ (u4.alloc (.cells #[L64 b4,.int .u8 f4,.int .i64 s4] 38 (0,0)))
   generalize u4.alloc (.cells #[L64 b4,.int .u8 f4,.int .i64 s4] 38 (0,0))=v4 at*
   generalize u4.heap.size=r4 at*
   clear hA4 hb4
   clear T3 B3 H3 R3 cH0 cH1 cH2 cH3 fH0 fH1 fH2 fH3 sH HCa HCb
   have er0:=rightW_512 (dir:=(d:Int)) (by omega) (by omega)
   obtain rfl:=callR_er er0 hc3
   obtain rfl:=callR_er er0 hc4
   go_cut [96] (fun v w'=>v= .bool false∧Below v4.heap.size v4 w')
   case first=>
    obtain⟨cP0,cP1,cP2,fP0,fP1,fP2,sP⟩:=R34.open3
    obtain⟨cQ0,cQ1,cQ2,fQ0,fQ1,fQ2,sQ⟩:=R4.open3
    by_cases z3:s3=0
    ·subst z3
     by_cases z4:s4=0
     ·subst z4
      have hle:=call_order k3 hx hy (by omega) (by omega) (by omega) (by omega) nx ny ho.out hc3 hc4
      have hb3':=call_bits k3 hx (by omega) (by omega) (by omega) hc3
      have hb4':=call_bits k3 hy (by omega) (by omega) (by omega) hc4
      have HO3:=Lib.hid (fun w=>order31_n (w:=w) hb3')
      have HO4:=Lib.hid (fun w=>order31_n (w:=w) hb4')
      have hd:decide (ordN b4<ordN b3)=false:=decide_eq_false (by omega)
      go_region_held3 (fun w'=>(w'.cell? ⟨r3,0,none⟩=some (L64 b3)∧w'.cell? ⟨r3,1,none⟩=some (.int .u8 f3)∧w'.cell? ⟨r3,2,none⟩=some (.int .i64 0))∧w'.cell? ⟨r4,0,none⟩=some (L64 b4)∧w'.cell? ⟨r4,1,none⟩=some (.int .u8 f4)∧w'.cell? ⟨r4,2,none⟩=some (.int .i64 0)) (refine cells3b ?_ ?_<;>(repeat' (first|with_reducible assumption|with_reducible exact blk_new|with_reducible exact blk_a2|with_reducible exact Below.refl _ _|with_reducible refine Blk.o1 ?_ ?_ _ _|with_reducible refine Blk.next ?_|with_reducible refine Blk.dr ?_|with_reducible refine bel_dr ?_|with_reducible refine bel_s1 ?_ ?_ _ _|with_reducible refine bel_next ?_|with_reducible refine Rd.s1 ?_ _ _|with_reducible refine RdN.below ?_ (below_alloc _ _)|((try simp only[size_alloc,size_drew,size_set1]);omega))))
       (first
         |(go_at_call 13;(with_reducible refine(HO3.out _).mono ?_);rintro e wx ⟨rfl,rfl⟩)
         |(go_at_call 13;(with_reducible refine(HO4.out _).mono ?_);rintro e wx ⟨rfl,rfl⟩)
         |fail)
      all_goals
       go_wp2_with fail
       go_meet
       exact⟨rfl,below_drewN (Below.refl _ _) _⟩
     ·have z4':(s4==0)=false:=beq_false_of_ne z4
      go_quiet (fail)
      go_wp2_with fail
      go_meet
      exact⟨rfl,below_drewN (Below.refl _ _) _⟩
    ·have z3':(s3==0)=false:=beq_false_of_ne z3
     go_quiet (fail)
     go_wp2_with fail
     go_meet
     exact⟨rfl,below_drewN (Below.refl _ _) _⟩
   case rest=>
    obtain⟨rfl,hcb⟩:=hcut
    generalize hwx:wc=v5 at*
    clear hwx
    have H5:=H4.below hcb
    have T5:=T4.below hcb
    have B5:=B4.trans (hcb.mono B4.size)
    clear H4 T4 B4 R34 R4 hcb hc3 hc4
    have HS:=Lib.hid (fun w=>rspec_n (w:=w) k3 hx)
    obtain⟨⟨sb,sf,si⟩,hsp⟩:∃s,spec31 k x=s:=⟨_,rfl⟩
    rw[hsp]at HS
    dsimp only at HS
    cases si
    ·replace hsp:=Lib.hid (show(spec31 k x).2.2=false by rw[hsp])
     go_upto_region 16 with(first
      |(go_at_call 18;(with_reducible refine(HS.out _).mono ?_);rintro e u6 ⟨rfl,hb6⟩)
      |fail)
     have hA6:=below_alloc u6 (.cells #[L64 sb,.int .i64 sf] 50 (0,0))
     have H6:=(H5.below hb6).below hA6
     have B6:=(B5.trans (hb6.mono B5.size)).trans (hA6.mono (Nat.le_trans B5.size hb6.size))
     generalize u6.alloc (.cells #[L64 sb,.int .i64 sf] 50 (0,0))=v6 at*
     clear hA6 hb6 H5 T5 B5 HS
     have HC3:=Lib.hid (fun w (hT:Tab w)=>lcall_n (w:=w) (dir:=3) (fr:=64) (pt:=512) k3 hx hT hfar)
     have HC2:=Lib.hid (fun w (hT:Tab w)=>lcall_n (w:=w) (dir:=2) (fr:=64) (pt:=512) k3 hx hT hfar)
     have HC0:=Lib.hid (fun w (hT:Tab w)=>lcall_n (w:=w) (dir:=0) (fr:=64) (pt:=512) k3 hx hT hfar)
     obtain⟨cH0,cH1,cH2,cH3,fH0,fH1,fH2,fH3,sH⟩:=H6.open4
     go_upto_region 17 with fail
     have G7:Blk (v6.setCell ⟨bh,0,none⟩ (.int .i64 3)) bh #[.int .i64 3,.int .i64 64,.int .i64 512,.pointer none]:=H6.setAt 0 (.int .i64 3)
     have D7:Below w.heap.size w (v6.setCell ⟨bh,0,none⟩ (.int .i64 3)):=bel_s1 B6 lh 0 _
     change Code.wp _ _ _ _ (v6.setCell ⟨bh,0,none⟩ (.int .i64 3))
     generalize v6.setCell ⟨bh,0,none⟩ (.int .i64 3)=x7 at*
     clear H6 B6 cH0 cH1 cH2 cH3 fH0 fH1 fH2 fH3 sH
     have Tx7:=hT.below D7
     obtain⟨cH0,cH1,cH2,cH3,fH0,fH1,fH2,fH3,sH⟩:=G7.open4
     go_upto_region 18 with(first
      |(go_at_call 15;(with_reducible refine(HC3.out _ Tx7).mono ?_);rintro e u7 ⟨b7,f7,s7,tr7,er7,rfl,hc7,hb7⟩)
      |fail)
     have hA7:=below_alloc u7 (.cells #[L64 b7,.int .u8 f7,.int .i64 s7] 38 (0,0))
     have R7:Blk (u7.alloc (.cells #[L64 b7,.int .u8 f7,.int .i64 s7] 38 (0,0))) u7.heap.size #[L64 b7,.int .u8 f7,.int .i64 s7]:=blk_new
     have H7:=(G7.below hb7).below hA7
     have sh7:bh<u7.heap.size:=(G7.below hb7).1
     have B7:=(D7.trans (hb7.mono D7.size)).trans (hA7.mono (Nat.le_trans D7.size hb7.size))
     change Code.wp _ _ _ _ (u7.alloc (.cells #[L64 b7,.int .u8 f7,.int .i64 s7] 38 (0,0)))
     generalize u7.alloc (.cells #[L64 b7,.int .u8 f7,.int .i64 s7] 38 (0,0))=v7 at*
     generalize u7.heap.size=r7 at*
     clear hA7 hb7 G7 D7 Tx7 cH0 cH1 cH2 cH3 fH0 fH1 fH2 fH3 sH HC3
     obtain⟨cH0,cH1,cH2,cH3,fH0,fH1,fH2,fH3,sH⟩:=H7.open4
     go_upto_region 19 with fail
     have G8:Blk (v7.setCell ⟨bh,0,none⟩ (.int .i64 2)) bh #[.int .i64 2,.int .i64 64,.int .i64 512,.pointer none]:=H7.setAt 0 (.int .i64 2)
     have D8:Below w.heap.size w (v7.setCell ⟨bh,0,none⟩ (.int .i64 2)):=bel_s1 B7 lh 0 _
     have SR78:=R7.o1 (show r7≠bh by omega) 0 (.int .i64 2)
     change Code.wp _ _ _ _ (v7.setCell ⟨bh,0,none⟩ (.int .i64 2))
     generalize v7.setCell ⟨bh,0,none⟩ (.int .i64 2)=x8 at*
     clear H7 B7 cH0 cH1 cH2 cH3 fH0 fH1 fH2 fH3 sH R7
     have Tx8:=hT.below D8
     obtain⟨cH0,cH1,cH2,cH3,fH0,fH1,fH2,fH3,sH⟩:=G8.open4
     go_upto_region 20 with(first
      |(go_at_call 15;(with_reducible refine(HC2.out _ Tx8).mono ?_);rintro e u8 ⟨b8,f8,s8,tr8,er8,rfl,hc8,hb8⟩)
      |fail)
     have hA8:=below_alloc u8 (.cells #[L64 b8,.int .u8 f8,.int .i64 s8] 38 (0,0))
     have R8:Blk (u8.alloc (.cells #[L64 b8,.int .u8 f8,.int .i64 s8] 38 (0,0))) u8.heap.size #[L64 b8,.int .u8 f8,.int .i64 s8]:=blk_new
     have H8:=(G8.below hb8).below hA8
     have sh8:bh<u8.heap.size:=(G8.below hb8).1
     have B8:=(D8.trans (hb8.mono D8.size)).trans (hA8.mono (Nat.le_trans D8.size hb8.size))
     have R78:=(SR78.below hb8).below hA8
     change Code.wp _ _ _ _ (u8.alloc (.cells #[L64 b8,.int .u8 f8,.int .i64 s8] 38 (0,0)))
     generalize u8.alloc (.cells #[L64 b8,.int .u8 f8,.int .i64 s8] 38 (0,0))=v8 at*
     generalize u8.heap.size=r8 at*
     clear hA8 hb8 G8 D8 Tx8 cH0 cH1 cH2 cH3 fH0 fH1 fH2 fH3 sH HC2 SR78
     obtain⟨cH0,cH1,cH2,cH3,fH0,fH1,fH2,fH3,sH⟩:=H8.open4
     go_upto_region 21 with fail
     have G9:Blk (v8.setCell ⟨bh,0,none⟩ (.int .i64 0)) bh #[.int .i64 0,.int .i64 64,.int .i64 512,.pointer none]:=H8.setAt 0 (.int .i64 0)
     have D9:Below w.heap.size w (v8.setCell ⟨bh,0,none⟩ (.int .i64 0)):=bel_s1 B8 lh 0 _
     have SR789:=R78.o1 (show r7≠bh by omega) 0 (.int .i64 0)
     have SR89:=R8.o1 (show r8≠bh by omega) 0 (.int .i64 0)
     change Code.wp _ _ _ _ (v8.setCell ⟨bh,0,none⟩ (.int .i64 0))
     generalize v8.setCell ⟨bh,0,none⟩ (.int .i64 0)=x9 at*
     clear H8 B8 cH0 cH1 cH2 cH3 fH0 fH1 fH2 fH3 sH R78 R8
     have Tx9:=hT.below D9
     obtain⟨cH0,cH1,cH2,cH3,fH0,fH1,fH2,fH3,sH⟩:=G9.open4
     go_upto_region 22 with(first
      |(go_at_call 15;(with_reducible refine(HC0.out _ Tx9).mono ?_);rintro e u9 ⟨b9,f9,s9,tr9,er9,rfl,hc9,hb9⟩)
      |fail)
     have hA9:=below_alloc u9 (.cells #[L64 b9,.int .u8 f9,.int .i64 s9] 38 (0,0))
     have R9:Blk (u9.alloc (.cells #[L64 b9,.int .u8 f9,.int .i64 s9] 38 (0,0))) u9.heap.size #[L64 b9,.int .u8 f9,.int .i64 s9]:=blk_new
     have H9:=(G9.below hb9).below hA9
     have sh9:bh<u9.heap.size:=(G9.below hb9).1
     have B9:=(D9.trans (hb9.mono D9.size)).trans (hA9.mono (Nat.le_trans D9.size hb9.size))
     have R789:=(SR789.below hb9).below hA9
     have R89:=(SR89.below hb9).below hA9
     change Code.wp _ _ _ _ (u9.alloc (.cells #[L64 b9,.int .u8 f9,.int .i64 s9] 38 (0,0)))
     generalize u9.alloc (.cells #[L64 b9,.int .u8 f9,.int .i64 s9] 38 (0,0))=v9 at*
     generalize u9.heap.size=r9 at*
     clear hA9 hb9 G9 D9 Tx9 cH0 cH1 cH2 cH3 fH0 fH1 fH2 fH3 sH HC0 SR789 SR89
     obtain rfl:=callR_er (rightW_512 (by decide) (by decide)) hc7
     obtain rfl:=callR_er (rightW_512 (by decide) (by decide)) hc8
     obtain rfl:=callR_er (rightW_512 (by decide) (by decide)) hc9
     obtain⟨cP0,cP1,cP2,fP0,fP1,fP2,sP⟩:=R789.open3
     obtain⟨cQ0,cQ1,cQ2,fQ0,fQ1,fQ2,sQ⟩:=R89.open3
     obtain⟨cR0,cR1,cR2,fR0,fR1,fR2,sR⟩:=R9.open3
     by_cases z7:s7=0
     ·by_cases z8:s8=0
      ·by_cases z9:s9=0
       ·subst z7 z8 z9
        obtain⟨hsub,hor,l7,l8⟩:=call_dirs k3 hx (by omega) nx hsp.out hc7 hc8 hc9
        have g7:=call_bits k3 hx (by omega) (by decide) (by decide) hc7
        have g8:=call_bits k3 hx (by omega) (by decide) (by decide) hc8
        have HO7:=Lib.hid (fun w=>order31_n (w:=w) g7)
        have HO8:=Lib.hid (fun w=>order31_n (w:=w) g8)
        have HW:=Lib.hid (fun w v (h:RdN w v [b8,b7])=>worst2_n (w:=w) h g8 g7 (size_kind l8) (size_kind l7))
        have sw:IntKind.i64.wrap (ordN b8-ordN b7)=1:=by rw[hsub];decide
        go_upto_region 24 with fail
        clear hc7 hc8 hc9 l7 l8 hsub
        by_cases zn:b9=b8
        ·subst zn
         refine wp_region_held_drew (S:=(fun w'=>(w'.cell? ⟨r7,0,none⟩=some (L64 b7)∧w'.cell? ⟨r7,1,none⟩=some (.int .u8 f7)∧w'.cell? ⟨r7,2,none⟩=some (.int .i64 0))∧(w'.cell? ⟨r8,0,none⟩=some (L64 b9)∧w'.cell? ⟨r8,1,none⟩=some (.int .u8 f8)∧w'.cell? ⟨r8,2,none⟩=some (.int .i64 0))∧w'.cell? ⟨r9,0,none⟩=some (L64 b9)∧w'.cell? ⟨r9,1,none⟩=some (.int .u8 f9)∧w'.cell? ⟨r9,2,none⟩=some (.int .i64 0))) (by kernel_rfl) ?_ (fun hHeld=>?_)
         ·(try dsimp only);refine cells3c R789.dr R89.dr R9.dr
         repeat((first|(refine tk8 (v:=?_) 0 rfl (fun _ _ _ h=>h) hHeld ?_ ?_ ?_ ?_;rotate_left;rfl;kernel_rfl)|(refine tk8 (v:=?_) 1 rfl (fun _ _ _ h=>h) hHeld ?_ ?_ ?_ ?_;rotate_left;rfl;kernel_rfl)|(refine tk8 (v:=?_) 3 rfl (fun _ _ _ h=>h) hHeld ?_ ?_ ?_ ?_;rotate_left;rfl;kernel_rfl)|(refine tk8 (v:=?_) 4 rfl (fun _ _ _ h=>h) hHeld ?_ ?_ ?_ ?_;rotate_left;rfl;kernel_rfl));focus(intro w hSw;(try dsimp only at hSw);go_simp;(try with_reducible rfl));(try simp only[Act.put,List.setIfInBounds_toArray,List.set_cons_zero,List.set_cons_succ]))
         refine wpAnyH_ready (rs:=[2]) (by kernel_rfl) (by simp) ?_
         refine AllReadyH.cons (getOf8 rfl) (fun K hK=>?_) AllReadyH.nil
         go_simp
         go_at_call 13;(with_reducible refine(HO8.out _).mono ?_);rintro e wx ⟨rfl,rfl⟩
         (try(go_wp2_with fail))
         refine hK.out _ _ ?_ (fun hHeld2=>?_)
         ·(try dsimp only);refine cells3c ?_ ?_ ?_<;>(repeat' (first|with_reducible assumption|with_reducible exact blk_new|with_reducible exact blk_a2|with_reducible exact Below.refl _ _|with_reducible refine Blk.o1 ?_ ?_ _ _|with_reducible refine Blk.next ?_|with_reducible refine Blk.dr ?_|with_reducible refine bel_dr ?_|with_reducible refine bel_s1 ?_ ?_ _ _|with_reducible refine bel_next ?_|with_reducible refine Rd.s1 ?_ _ _|with_reducible refine RdN.below ?_ (below_alloc _ _)|((try simp only[size_alloc,size_drew,size_set1]);omega)))
         clear hK K hHeld
         have hHeld:=hHeld2
         clear hHeld2
         (try simp only[Act.put,List.setIfInBounds_toArray,List.set_cons_zero,List.set_cons_succ])
         refine wpAnyH_ready (rs:=[5]) (by kernel_rfl) (by simp) ?_
         refine AllReadyH.cons (getOf8 rfl) (fun K hK=>?_) AllReadyH.nil
         go_simp
         go_at_call 13;(with_reducible refine(HO7.out _).mono ?_);rintro e wx ⟨rfl,rfl⟩
         (try(go_wp2_with fail))
         refine hK.out _ _ ?_ (fun hHeld2=>?_)
         ·(try dsimp only);refine cells3c ?_ ?_ ?_<;>(repeat' (first|with_reducible assumption|with_reducible exact blk_new|with_reducible exact blk_a2|with_reducible exact Below.refl _ _|with_reducible refine Blk.o1 ?_ ?_ _ _|with_reducible refine Blk.next ?_|with_reducible refine Blk.dr ?_|with_reducible refine bel_dr ?_|with_reducible refine bel_s1 ?_ ?_ _ _|with_reducible refine bel_next ?_|with_reducible refine Rd.s1 ?_ _ _|with_reducible refine RdN.below ?_ (below_alloc _ _)|((try simp only[size_alloc,size_drew,size_set1]);omega)))
         clear hK K hHeld
         have hHeld:=hHeld2
         clear hHeld2
         (try simp only[Act.put,List.setIfInBounds_toArray,List.set_cons_zero,List.set_cons_succ])
         repeat((first|(refine tk8 (v:=?_) 6 rfl (fun _ _ _ h=>h) hHeld ?_ ?_ ?_ ?_;rotate_left;rfl;kernel_rfl)|(refine tk8 (v:=?_) 7 rfl (fun _ _ _ h=>h) hHeld ?_ ?_ ?_ ?_;rotate_left;rfl;kernel_rfl)|(refine tk8 (v:=?_) 8 rfl (fun _ _ _ h=>h) hHeld ?_ ?_ ?_ ?_;rotate_left;rfl;kernel_rfl)|(refine tk8 (v:=?_) 9 rfl (fun _ _ _ h=>h) hHeld ?_ ?_ ?_ ?_;rotate_left;rfl;kernel_rfl)|(refine tk8 (v:=?_) 10 rfl (fun _ _ _ h=>h) hHeld ?_ ?_ ?_ ?_;rotate_left;rfl;kernel_rfl)|(refine tk8 (v:=?_) 11 rfl (fun _ _ _ h=>h) hHeld ?_ ?_ ?_ ?_;rotate_left;rfl;kernel_rfl)|(refine tk8 (v:=?_) 12 rfl (fun _ _ _ h=>h) hHeld ?_ ?_ ?_ ?_;rotate_left;rfl;kernel_rfl)|(refine tk8 (v:=?_) 13 rfl (fun _ _ _ h=>h) hHeld ?_ ?_ ?_ ?_;rotate_left;rfl;kernel_rfl)|(refine tk8 (v:=?_) 14 rfl (fun _ _ _ h=>h) hHeld ?_ ?_ ?_ ?_;rotate_left;rfl;kernel_rfl));focus(intro w hSw;(try dsimp only at hSw);go_simp;(try with_reducible rfl));(try simp only[Act.put,List.setIfInBounds_toArray,List.set_cons_zero,List.set_cons_succ]))
         repeat((first|(refine tn8 15 rfl (fun _ _ _ h=>h) hHeld ?_ ?_ ?_;rfl;kernel_rfl)|(refine tn8 16 rfl (fun _ _ _ h=>h) hHeld ?_ ?_ ?_;rfl;kernel_rfl)|(refine tn8 17 rfl (fun _ _ _ h=>h) hHeld ?_ ?_ ?_;rfl;kernel_rfl)|(refine tn8 18 rfl (fun _ _ _ h=>h) hHeld ?_ ?_ ?_;rfl;kernel_rfl)|(refine tn8 19 rfl (fun _ _ _ h=>h) hHeld ?_ ?_ ?_;rfl;kernel_rfl));(try simp only[Act.put,List.setIfInBounds_toArray,List.set_cons_zero,List.set_cons_succ]))
         repeat((first|(refine tk8 (v:=?_) 20 rfl (fun _ _ _ h=>h) hHeld ?_ ?_ ?_ ?_;rotate_left;rfl;kernel_rfl)|(refine tk8 (v:=?_) 21 rfl (fun _ _ _ h=>h) hHeld ?_ ?_ ?_ ?_;rotate_left;rfl;kernel_rfl)|(refine tk8 (v:=?_) 22 rfl (fun _ _ _ h=>h) hHeld ?_ ?_ ?_ ?_;rotate_left;rfl;kernel_rfl)|(refine tk8 (v:=?_) 23 rfl (fun _ _ _ h=>h) hHeld ?_ ?_ ?_ ?_;rotate_left;rfl;kernel_rfl)|(refine tk8 (v:=?_) 24 rfl (fun _ _ _ h=>h) hHeld ?_ ?_ ?_ ?_;rotate_left;rfl;kernel_rfl)|(refine tk8 (v:=?_) 25 rfl (fun _ _ _ h=>h) hHeld ?_ ?_ ?_ ?_;rotate_left;rfl;kernel_rfl)|(refine tk8 (v:=?_) 26 rfl (fun _ _ _ h=>h) hHeld ?_ ?_ ?_ ?_;rotate_left;rfl;kernel_rfl));focus(intro w hSw;(try dsimp only at hSw);go_simp;(try with_reducible rfl));(try simp only[Act.put,List.setIfInBounds_toArray,List.set_cons_zero,List.set_cons_succ]))
         refine wpAnyH_ready (rs:=[27]) (by kernel_rfl) (by simp) ?_
         refine AllReadyH.cons (getOf8 rfl) (fun K hK=>?_) AllReadyH.nil
         go_simp
         skip
         (try(go_wp2_with fail))
         refine hK.out _ _ ?_ (fun hHeld2=>?_)
         ·(try dsimp only);refine cells3c ?_ ?_ ?_<;>(repeat' (first|with_reducible assumption|with_reducible exact blk_new|with_reducible exact blk_a2|with_reducible exact Below.refl _ _|with_reducible refine Blk.o1 ?_ ?_ _ _|with_reducible refine Blk.next ?_|with_reducible refine Blk.dr ?_|with_reducible refine bel_dr ?_|with_reducible refine bel_s1 ?_ ?_ _ _|with_reducible refine bel_next ?_|with_reducible refine Rd.s1 ?_ _ _|with_reducible refine RdN.below ?_ (below_alloc _ _)|((try simp only[size_alloc,size_drew,size_set1]);omega)))
         clear hK K hHeld
         have hHeld:=hHeld2
         clear hHeld2
         (try simp only[Act.put,List.setIfInBounds_toArray,List.set_cons_zero,List.set_cons_succ])
         refine wpAnyH_ready (rs:=[28]) (by kernel_rfl) (by simp) ?_
         refine AllReadyH.cons (getOf8 rfl) (fun K hK=>?_) AllReadyH.nil
         go_simp
         go_at_call 19;(with_reducible refine(HW.out _ _ (rdN_dr (rd_two (heap_alloc_new _ _)))).mono ?_);rintro e wx ⟨rfl,rfl⟩
         (try(go_wp2_with fail))
         refine hK.out _ _ ?_ (fun hHeld2=>?_)
         ·(try dsimp only);refine cells3c ?_ ?_ ?_<;>(repeat' (first|with_reducible assumption|with_reducible exact blk_new|with_reducible exact blk_a2|with_reducible exact Below.refl _ _|with_reducible refine Blk.o1 ?_ ?_ _ _|with_reducible refine Blk.next ?_|with_reducible refine Blk.dr ?_|with_reducible refine bel_dr ?_|with_reducible refine bel_s1 ?_ ?_ _ _|with_reducible refine bel_next ?_|with_reducible refine Rd.s1 ?_ _ _|with_reducible refine RdN.below ?_ (below_alloc _ _)|((try simp only[size_alloc,size_drew,size_set1]);omega)))
         clear hK K hHeld
         have hHeld:=hHeld2
         clear hHeld2
         (try simp only[Act.put,List.setIfInBounds_toArray,List.set_cons_zero,List.set_cons_succ])
         repeat((first|(refine tk8 (v:=?_) 29 rfl (fun _ _ _ h=>h) hHeld ?_ ?_ ?_ ?_;rotate_left;rfl;kernel_rfl)|(refine tk8 (v:=?_) 30 rfl (fun _ _ _ h=>h) hHeld ?_ ?_ ?_ ?_;rotate_left;rfl;kernel_rfl)|(refine tk8 (v:=?_) 31 rfl (fun _ _ _ h=>h) hHeld ?_ ?_ ?_ ?_;rotate_left;rfl;kernel_rfl));focus(intro w hSw;(try dsimp only at hSw);go_simp;(try with_reducible rfl));(try simp only[Act.put,List.setIfInBounds_toArray,List.set_cons_zero,List.set_cons_succ]))
         refine wpAnyH_done (by kernel_rfl) ?_ _
         go_wp2_with fail
         go_ret
         exact⟨rfl,by(repeat' (first|with_reducible assumption|with_reducible exact blk_new|with_reducible exact blk_a2|with_reducible exact Below.refl _ _|with_reducible refine Blk.o1 ?_ ?_ _ _|with_reducible refine Blk.next ?_|with_reducible refine Blk.dr ?_|with_reducible refine bel_dr ?_|with_reducible refine bel_s1 ?_ ?_ _ _|with_reducible refine bel_next ?_|with_reducible refine Rd.s1 ?_ _ _|with_reducible refine RdN.below ?_ (below_alloc _ _)|((try simp only[size_alloc,size_drew,size_set1]);omega)))⟩
        ·obtain rfl:b9=b7:=hor.resolve_left zn
         have zn1:((b9:Int)==(b8:Int))=false:=beq_false_of_ne (by omega)
         have zn2:(b9==b8)=false:=beq_false_of_ne zn
         refine wp_region_held_drew (S:=(fun w'=>(w'.cell? ⟨r7,0,none⟩=some (L64 b9)∧w'.cell? ⟨r7,1,none⟩=some (.int .u8 f7)∧w'.cell? ⟨r7,2,none⟩=some (.int .i64 0))∧(w'.cell? ⟨r8,0,none⟩=some (L64 b8)∧w'.cell? ⟨r8,1,none⟩=some (.int .u8 f8)∧w'.cell? ⟨r8,2,none⟩=some (.int .i64 0))∧w'.cell? ⟨r9,0,none⟩=some (L64 b9)∧w'.cell? ⟨r9,1,none⟩=some (.int .u8 f9)∧w'.cell? ⟨r9,2,none⟩=some (.int .i64 0))) (by kernel_rfl) ?_ (fun hHeld=>?_)
         ·(try dsimp only);refine cells3c R789.dr R89.dr R9.dr
         repeat((first|(refine tk8 (v:=?_) 0 rfl (fun _ _ _ h=>h) hHeld ?_ ?_ ?_ ?_;rotate_left;rfl;kernel_rfl)|(refine tk8 (v:=?_) 1 rfl (fun _ _ _ h=>h) hHeld ?_ ?_ ?_ ?_;rotate_left;rfl;kernel_rfl)|(refine tk8 (v:=?_) 3 rfl (fun _ _ _ h=>h) hHeld ?_ ?_ ?_ ?_;rotate_left;rfl;kernel_rfl)|(refine tk8 (v:=?_) 4 rfl (fun _ _ _ h=>h) hHeld ?_ ?_ ?_ ?_;rotate_left;rfl;kernel_rfl));focus(intro w hSw;(try dsimp only at hSw);go_simp;(try with_reducible rfl));(try simp only[Act.put,List.setIfInBounds_toArray,List.set_cons_zero,List.set_cons_succ]))
         refine wpAnyH_ready (rs:=[2]) (by kernel_rfl) (by simp) ?_
         refine AllReadyH.cons (getOf8 rfl) (fun K hK=>?_) AllReadyH.nil
         go_simp
         go_at_call 13;(with_reducible refine(HO8.out _).mono ?_);rintro e wx ⟨rfl,rfl⟩
         (try(go_wp2_with fail))
         refine hK.out _ _ ?_ (fun hHeld2=>?_)
         ·(try dsimp only);refine cells3c ?_ ?_ ?_<;>(repeat' (first|with_reducible assumption|with_reducible exact blk_new|with_reducible exact blk_a2|with_reducible exact Below.refl _ _|with_reducible refine Blk.o1 ?_ ?_ _ _|with_reducible refine Blk.next ?_|with_reducible refine Blk.dr ?_|with_reducible refine bel_dr ?_|with_reducible refine bel_s1 ?_ ?_ _ _|with_reducible refine bel_next ?_|with_reducible refine Rd.s1 ?_ _ _|with_reducible refine RdN.below ?_ (below_alloc _ _)|((try simp only[size_alloc,size_drew,size_set1]);omega)))
         clear hK K hHeld
         have hHeld:=hHeld2
         clear hHeld2
         (try simp only[Act.put,List.setIfInBounds_toArray,List.set_cons_zero,List.set_cons_succ])
         refine wpAnyH_ready (rs:=[5]) (by kernel_rfl) (by simp) ?_
         refine AllReadyH.cons (getOf8 rfl) (fun K hK=>?_) AllReadyH.nil
         go_simp
         go_at_call 13;(with_reducible refine(HO7.out _).mono ?_);rintro e wx ⟨rfl,rfl⟩
         (try(go_wp2_with fail))
         refine hK.out _ _ ?_ (fun hHeld2=>?_)
         ·(try dsimp only);refine cells3c ?_ ?_ ?_<;>(repeat' (first|with_reducible assumption|with_reducible exact blk_new|with_reducible exact blk_a2|with_reducible exact Below.refl _ _|with_reducible refine Blk.o1 ?_ ?_ _ _|with_reducible refine Blk.next ?_|with_reducible refine Blk.dr ?_|with_reducible refine bel_dr ?_|with_reducible refine bel_s1 ?_ ?_ _ _|with_reducible refine bel_next ?_|with_reducible refine Rd.s1 ?_ _ _|with_reducible refine RdN.below ?_ (below_alloc _ _)|((try simp only[size_alloc,size_drew,size_set1]);omega)))
         clear hK K hHeld
         have hHeld:=hHeld2
         clear hHeld2
         (try simp only[Act.put,List.setIfInBounds_toArray,List.set_cons_zero,List.set_cons_succ])
         repeat((first|(refine tk8 (v:=?_) 6 rfl (fun _ _ _ h=>h) hHeld ?_ ?_ ?_ ?_;rotate_left;rfl;kernel_rfl)|(refine tk8 (v:=?_) 7 rfl (fun _ _ _ h=>h) hHeld ?_ ?_ ?_ ?_;rotate_left;rfl;kernel_rfl)|(refine tk8 (v:=?_) 8 rfl (fun _ _ _ h=>h) hHeld ?_ ?_ ?_ ?_;rotate_left;rfl;kernel_rfl)|(refine tk8 (v:=?_) 9 rfl (fun _ _ _ h=>h) hHeld ?_ ?_ ?_ ?_;rotate_left;rfl;kernel_rfl)|(refine tk8 (v:=?_) 10 rfl (fun _ _ _ h=>h) hHeld ?_ ?_ ?_ ?_;rotate_left;rfl;kernel_rfl)|(refine tk8 (v:=?_) 11 rfl (fun _ _ _ h=>h) hHeld ?_ ?_ ?_ ?_;rotate_left;rfl;kernel_rfl)|(refine tk8 (v:=?_) 12 rfl (fun _ _ _ h=>h) hHeld ?_ ?_ ?_ ?_;rotate_left;rfl;kernel_rfl)|(refine tk8 (v:=?_) 13 rfl (fun _ _ _ h=>h) hHeld ?_ ?_ ?_ ?_;rotate_left;rfl;kernel_rfl)|(refine tk8 (v:=?_) 14 rfl (fun _ _ _ h=>h) hHeld ?_ ?_ ?_ ?_;rotate_left;rfl;kernel_rfl));focus(intro w hSw;(try dsimp only at hSw);go_simp;(try with_reducible rfl));(try simp only[Act.put,List.setIfInBounds_toArray,List.set_cons_zero,List.set_cons_succ]))
         repeat((first|(refine tk8 (v:=?_) 15 rfl (fun _ _ _ h=>h) hHeld ?_ ?_ ?_ ?_;rotate_left;rfl;kernel_rfl)|(refine tk8 (v:=?_) 16 rfl (fun _ _ _ h=>h) hHeld ?_ ?_ ?_ ?_;rotate_left;rfl;kernel_rfl)|(refine tk8 (v:=?_) 17 rfl (fun _ _ _ h=>h) hHeld ?_ ?_ ?_ ?_;rotate_left;rfl;kernel_rfl)|(refine tk8 (v:=?_) 18 rfl (fun _ _ _ h=>h) hHeld ?_ ?_ ?_ ?_;rotate_left;rfl;kernel_rfl)|(refine tk8 (v:=?_) 19 rfl (fun _ _ _ h=>h) hHeld ?_ ?_ ?_ ?_;rotate_left;rfl;kernel_rfl)|(refine tk8 (v:=?_) 20 rfl (fun _ _ _ h=>h) hHeld ?_ ?_ ?_ ?_;rotate_left;rfl;kernel_rfl)|(refine tk8 (v:=?_) 21 rfl (fun _ _ _ h=>h) hHeld ?_ ?_ ?_ ?_;rotate_left;rfl;kernel_rfl)|(refine tk8 (v:=?_) 22 rfl (fun _ _ _ h=>h) hHeld ?_ ?_ ?_ ?_;rotate_left;rfl;kernel_rfl)|(refine tk8 (v:=?_) 23 rfl (fun _ _ _ h=>h) hHeld ?_ ?_ ?_ ?_;rotate_left;rfl;kernel_rfl)|(refine tk8 (v:=?_) 24 rfl (fun _ _ _ h=>h) hHeld ?_ ?_ ?_ ?_;rotate_left;rfl;kernel_rfl)|(refine tk8 (v:=?_) 25 rfl (fun _ _ _ h=>h) hHeld ?_ ?_ ?_ ?_;rotate_left;rfl;kernel_rfl)|(refine tk8 (v:=?_) 26 rfl (fun _ _ _ h=>h) hHeld ?_ ?_ ?_ ?_;rotate_left;rfl;kernel_rfl));focus(intro w hSw;(try dsimp only at hSw);go_simp;(try with_reducible rfl));(try simp only[Act.put,List.setIfInBounds_toArray,List.set_cons_zero,List.set_cons_succ]))
         refine wpAnyH_ready (rs:=[27]) (by kernel_rfl) (by simp) ?_
         refine AllReadyH.cons (getOf8 rfl) (fun K hK=>?_) AllReadyH.nil
         go_simp
         skip
         (try(go_wp2_with fail))
         refine hK.out _ _ ?_ (fun hHeld2=>?_)
         ·(try dsimp only);refine cells3c ?_ ?_ ?_<;>(repeat' (first|with_reducible assumption|with_reducible exact blk_new|with_reducible exact blk_a2|with_reducible exact Below.refl _ _|with_reducible refine Blk.o1 ?_ ?_ _ _|with_reducible refine Blk.next ?_|with_reducible refine Blk.dr ?_|with_reducible refine bel_dr ?_|with_reducible refine bel_s1 ?_ ?_ _ _|with_reducible refine bel_next ?_|with_reducible refine Rd.s1 ?_ _ _|with_reducible refine RdN.below ?_ (below_alloc _ _)|((try simp only[size_alloc,size_drew,size_set1]);omega)))
         clear hK K hHeld
         have hHeld:=hHeld2
         clear hHeld2
         (try simp only[Act.put,List.setIfInBounds_toArray,List.set_cons_zero,List.set_cons_succ])
         refine wpAnyH_ready (rs:=[28]) (by kernel_rfl) (by simp) ?_
         refine AllReadyH.cons (getOf8 rfl) (fun K hK=>?_) AllReadyH.nil
         go_simp
         go_at_call 19;(with_reducible refine(HW.out _ _ (rdN_dr (rd_two (heap_alloc_new _ _)))).mono ?_);rintro e wx ⟨rfl,rfl⟩
         (try(go_wp2_with fail))
         refine hK.out _ _ ?_ (fun hHeld2=>?_)
         ·(try dsimp only);refine cells3c ?_ ?_ ?_<;>(repeat' (first|with_reducible assumption|with_reducible exact blk_new|with_reducible exact blk_a2|with_reducible exact Below.refl _ _|with_reducible refine Blk.o1 ?_ ?_ _ _|with_reducible refine Blk.next ?_|with_reducible refine Blk.dr ?_|with_reducible refine bel_dr ?_|with_reducible refine bel_s1 ?_ ?_ _ _|with_reducible refine bel_next ?_|with_reducible refine Rd.s1 ?_ _ _|with_reducible refine RdN.below ?_ (below_alloc _ _)|((try simp only[size_alloc,size_drew,size_set1]);omega)))
         clear hK K hHeld
         have hHeld:=hHeld2
         clear hHeld2
         (try simp only[Act.put,List.setIfInBounds_toArray,List.set_cons_zero,List.set_cons_succ])
         repeat((first|(refine tk8 (v:=?_) 29 rfl (fun _ _ _ h=>h) hHeld ?_ ?_ ?_ ?_;rotate_left;rfl;kernel_rfl)|(refine tk8 (v:=?_) 30 rfl (fun _ _ _ h=>h) hHeld ?_ ?_ ?_ ?_;rotate_left;rfl;kernel_rfl)|(refine tk8 (v:=?_) 31 rfl (fun _ _ _ h=>h) hHeld ?_ ?_ ?_ ?_;rotate_left;rfl;kernel_rfl));focus(intro w hSw;(try dsimp only at hSw);go_simp;(try with_reducible rfl));(try simp only[Act.put,List.setIfInBounds_toArray,List.set_cons_zero,List.set_cons_succ]))
         refine wpAnyH_done (by kernel_rfl) ?_ _
         go_wp2_with fail
         go_ret
         exact⟨rfl,by(repeat' (first|with_reducible assumption|with_reducible exact blk_new|with_reducible exact blk_a2|with_reducible exact Below.refl _ _|with_reducible refine Blk.o1 ?_ ?_ _ _|with_reducible refine Blk.next ?_|with_reducible refine Blk.dr ?_|with_reducible refine bel_dr ?_|with_reducible refine bel_s1 ?_ ?_ _ _|with_reducible refine bel_next ?_|with_reducible refine Rd.s1 ?_ _ _|with_reducible refine RdN.below ?_ (below_alloc _ _)|((try simp only[size_alloc,size_drew,size_set1]);omega)))⟩
       ·have z9':(s9 !=0)=true:=by rw[bne_iff_ne];exact z9
        subst z7 z8
        go_wp2_with fail
        go_ret
        exact⟨rfl,by assumption⟩
      ·have z8':(s8 !=0)=true:=by rw[bne_iff_ne];exact z8
       subst z7
       go_wp2_with fail
       go_ret
       exact⟨rfl,by assumption⟩
     ·have z7':(s7 !=0)=true:=by rw[bne_iff_ne];exact z7
      go_wp2_with fail
      go_ret
      exact⟨rfl,by assumption⟩
    ·go_wp2_with (first
      |(go_at_call 18;(with_reducible refine(HS.out _).mono ?_);rintro e v6 ⟨rfl,hb6⟩;have B6:=B5.trans (hb6.mono B5.size))
      |fail)
     go_ret
     exact⟨rfl,below_al B6 _⟩
theorem walk (ki xi yi di:Int) (w:World) (wk:(Lit.int .u8 ki).wf=true) (wx:(Lit.int .u64 xi).wf=true) (wy:(Lit.int .u64 yi).wf=true) (wd:(Lit.int .u8 di).wf=true) (hT:Tab w):
 Calls Tryz.prog 5 #[.int .u8 ki,.int .u64 xi,.int .u64 yi,.int .u8 di] w fun e w'=>e= .returned (.bool true)∧Below w.heap.size w w':=by
 have h0:0≤ki∧ki≤255:=by simpa[Lit.wf,IntKind.min,IntKind.max,IntKind.bits,IntKind.signed]using wk
 have h1:0≤xi∧xi≤18446744073709551615:=by simpa[Lit.wf,IntKind.min,IntKind.max,IntKind.bits,IntKind.signed]using wx
 have h2:0≤yi∧yi≤18446744073709551615:=by simpa[Lit.wf,IntKind.min,IntKind.max,IntKind.bits,IntKind.signed]using wy
 have h3:0≤di∧di≤255:=by simpa[Lit.wf,IntKind.min,IntKind.max,IntKind.bits,IntKind.signed]using wd
 obtain⟨k,rfl⟩:∃n:Nat,ki=(n:Int):=⟨ki.toNat,by omega⟩
 obtain⟨x,rfl⟩:∃n:Nat,xi=(n:Int):=⟨xi.toNat,by omega⟩
 obtain⟨y,rfl⟩:∃n:Nat,yi=(n:Int):=⟨yi.toNat,by omega⟩
 obtain⟨d,rfl⟩:∃n:Nat,di=(n:Int):=⟨di.toNat,by omega⟩
 exact walk0 (by omega) (by omega) (by omega) (by omega) hT
end Go.Proofs.YtffaefjkpipjnaaGreatDoor.PXRules
