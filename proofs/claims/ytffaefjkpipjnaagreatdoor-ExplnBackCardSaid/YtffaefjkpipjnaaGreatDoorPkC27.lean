/- exps.right, units, floor, ceil by their contracts. Conditions: the numbers are short; math/bits' table stands in its variable. -/
import Derived.Test.YtffaefjkpipjnaaGreatDoorPkC19
import Derived.Test.YtffaefjkpipjnaaGreatDoorPkC26
import Derived.Test.YtffaefjkpipjnaaGreatDoorPkC21
import Derived.Test.YtffaefjkpipjnaaGreatDoorPkC12
namespace Go.Proofs.YtffaefjkpipjnaaGreatDoor
set_option maxRecDepth 100000
open Go.RowKit Go.ChangeShapes Go.WideShapes
set_option linter.unusedVariables false
theorem bcells2 {p:Bool}{a:Option Addr}{n k:Nat}:∀x∈(#[.bool p,.slice a n k]:Array Value).toList,∀m:Nat,x≠L64 m:=by
 intro x hx m
 simp at hx
 rcases hx with rfl|rfl<;>simp[L64]
theorem sign_neg {neg n':Bool}{A M:Nat}{e0 E:Int}(q:bareD ⟨neg,A,e0⟩=⟨n',M,E⟩):decide (signD ⟨neg,A,e0⟩<0)=n':=by
 unfold signD
 by_cases h0:A=0
 ·rw[if_pos h0]
  rw[bareD_zero h0]at q
  obtain rfl:n'=false:=by injection q with q1;exact q1.symm
  decide
 ·rw[if_neg h0]
  rw[bareD_pos h0]at q
  injection q with q1
  have q1:neg=n':=q1
  subst q1
  cases neg<;>rfl
def rightB (M:Nat) (E:Int):Bool:=fitsE E&&(decide (bitN M≤20000)&&(decide (-20000≤E)&&(decide (M=0)||decide (topD ⟨false,M,E⟩<12))))
set_option maxHeartbeats 2000000 in
theorem right_n {w:World}{v:Value}{neg n':Bool}{A M:Nat}{e0 E:Int}{r:Bool}(h:Num w v A) (hT:Tab w) (h1: -9223372036854775808≤e0) (h2:e0≤9223372036854775807)
 (q:bareD ⟨neg,A,e0⟩=⟨n',M,E⟩) (sM:bitN M≤2560000) (hr:rightB M E=r):
 Calls Tryz.prog 91 #[.agg #[.bool neg,v,.int .i64 e0]] w (fun e w'=>e= .returned (.bool r)∧Below w.heap.size w w'):=by
 obtain⟨a,n,k,rfl⟩:=h.slice
 have hTlt:=hT.lt
 have P:=blk_new (w:=w) (T:=63) (c:= #[.bool neg,.slice a n k,.int .i64 e0])
 have B0:=below_alloc w (.cells #[.bool neg,.slice a n k,.int .i64 e0] 63 (0,0))
 have m0:=h.below B0;have T0:=hT.below B0
 clear h hT
 unfold rightB at hr
 by_cases hf:fitsE E=true
 rotate_left
 ·have hf:fitsE E=false:=by simpa using hf
  have HB:=Lib.hid (fun w v (h:Num w v A) (hT:Tab w)=>Bare_long h hT h1 h2 q hf)
  have HTP:=Lib.hid (fun w (hT:Tab w)=>Top_zero (neg:=false) (E:=0) (Num.nil w) hT (by decide) (by decide))
  obtain rfl:r=false:=by rw[←hr,hf,Bool.false_and]
  clear hr hf q
  go_enter Tryz.func91,Tryz.ntmps91
  go_upto_region 1 with fail
  generalize w.alloc (.cells #[.bool neg,.slice a n k,.int .i64 e0] 63 (0,0))=w0 at*
  obtain⟨cP0,cP1,cP2,fP0,fP1,fP2,sP⟩:=P.open3
  go_upto_region 2 with
   (first
     |(go_at_call 74;(with_reducible refine(HB.out _ _ m0 T0).mono ?_);rintro e w1 ⟨rfl,hb1⟩;have B1:=B0.trans (hb1.mono B0.size);have m1:=m0.below hb1;have T1:=T0.below hb1;have P1:=P.below hb1;clear m0 T0 P;obtain⟨cP0_1,cP1_1,cP2_1,fP0_1,fP1_1,fP2_1,sP_1⟩:=P1.open3)
     |fail)
  have P4:=P1.set3 (.bool false) (.slice none 0 0) (.int .i64 0)
  have B2:=below_set3 B1 (Nat.le_refl _) (.bool false) (.slice none 0 0) (.int .i64 0)
  have T4:=T1.set3 (Nat.ne_of_lt hTlt) (.bool false) (.slice none 0 0) (.int .i64 0)
  clear P1 B1 T1 m1 cP0_1 cP1_1 cP2_1 fP0_1 fP1_1 fP2_1 sP_1 hb1 cP0 cP1 cP2 fP0 fP1 fP2 sP
  generalize ((w1.setCell ⟨w.heap.size,0,none⟩ (.bool false)).setCell ⟨w.heap.size,1,none⟩ (.slice none 0 0)).setCell ⟨w.heap.size,2,none⟩ (.int .i64 0)=w2 at*
  obtain⟨cP0_1,cP1_1,cP2_1,fP0_1,fP1_1,fP2_1,sP_1⟩:=P4.open3
  go_wp2_with
   (first
     |(go_at_call 69;(with_reducible refine(HTP.out _ T4).mono ?_);rintro e w11 ⟨rfl,hb11⟩;have B11:=B2.trans (hb11.mono B2.size);have T11:=T4.below hb11;have P11:=P4.below hb11;clear T4 P4;obtain⟨cP0_11,cP1_11,cP2_11,fP0_11,fP1_11,fP2_11,sP_11⟩:=P11.open3)
     |fail)
  all_goals
   go_ret
   exact⟨rfl,by assumption⟩
 have HB:=Lib.hid (fun w v (h:Num w v A) (hT:Tab w)=>Bare_ok h hT h1 h2 q hf)
 have r1: -1073741824≤E∧E≤1073741824:=by unfold fitsE at hf;simp at hf;exact hf
 have qa:=bareD_again q (by omega) (by omega)
 rw[hf,Bool.true_and]at hr
 obtain⟨b,eb⟩:∃b,bitN M=b:=⟨_,rfl⟩
 obtain⟨t,hTP⟩:∃t:Int,Hid (∀(w:World) v,RdN w v (digs BB M)→Tab w→∃o,Calls Tryz.prog 69 #[.agg #[.bool n',v,.int .i64 E]] w (fun e w'=>e= .returned (.tuple #[.int .i64 t,.bool o])∧Below w.heap.size w w'))∧(decide (M=0)||decide (topD ⟨false,M,E⟩<12))=decide (t<12):=by
  by_cases h0:M=0
  ·subst h0
   exact⟨0,Lib.hid (fun w v h hT=>⟨_,Top_zero (h.num (by omega)) hT (by omega) (by omega)⟩),by rw[decide_eq_true rfl];rfl⟩
  ·exact⟨topD ⟨n',M,E⟩,Lib.hid (fun w v h hT=>⟨_,Top_n (h.num (by omega)) hT (by omega) (by omega) qa h0⟩),by rw[decide_eq_false h0,Bool.false_or];rfl⟩
 obtain⟨HTP,ht⟩:=hTP
 rw[ht,eb]at hr
 have HBT:=Lib.hid (fun w v (h:RdN w v (digs BB M))=>bits_n (h.num (by omega)) eb)
 have hd1:decide ((b:Int)≤20000)=decide (b≤20000):=by simp only[decide_eq_decide];omega
 obtain⟨x1,e1⟩:∃x,decide (b≤20000)=x:=⟨_,rfl⟩
 obtain⟨x2,e2⟩:∃x,decide (-20000≤E)=x:=⟨_,rfl⟩
 obtain⟨x3,e3⟩:∃x,decide (t<12)=x:=⟨_,rfl⟩
 rw[e1]at hd1
 rw[e1,e2,e3]at hr
 have hr:=Lib.hid hr
 clear q qa hf eb ht sM r1
 go_enter Tryz.func91,Tryz.ntmps91
 go_upto_region 1 with fail
 generalize w.alloc (.cells #[.bool neg,.slice a n k,.int .i64 e0] 63 (0,0))=w0 at*
 obtain⟨cP0,cP1,cP2,fP0,fP1,fP2,sP⟩:=P.open3
 go_upto_region 2 with
  (first
    |(go_at_call 74;(with_reducible refine(HB.out _ _ m0 T0).mono ?_);rintro e w1 ⟨vy1,rfl,y1,hb1⟩;have B1:=B0.trans (hb1.mono B0.size);have m1:=m0.below hb1;have T1:=T0.below hb1;have P1:=P.below hb1;clear m0 T0 P;obtain⟨cP0_1,cP1_1,cP2_1,fP0_1,fP1_1,fP2_1,sP_1⟩:=P1.open3;obtain⟨ay1,ky1,rfl,-⟩:=y1.view;try simp only[List.length_nil]at y1)
    |fail)
 have x4:=y1.set3 P1 dcells (.bool n') (.slice ay1 (digs BB M).length ky1) (.int .i64 E)
 have P4:=P1.set3 (.bool n') (.slice ay1 (digs BB M).length ky1) (.int .i64 E)
 have B2:=below_set3 B1 (Nat.le_refl _) (.bool n') (.slice ay1 (digs BB M).length ky1) (.int .i64 E)
 have T4:=T1.set3 (Nat.ne_of_lt hTlt) (.bool n') (.slice ay1 (digs BB M).length ky1) (.int .i64 E)
 clear P1 B1 T1 m1 cP0_1 cP1_1 cP2_1 fP0_1 fP1_1 fP2_1 sP_1 hb1 cP0 cP1 cP2 fP0 fP1 fP2 sP
 generalize ((w1.setCell ⟨w.heap.size,0,none⟩ (.bool n')).setCell ⟨w.heap.size,1,none⟩ (.slice ay1 (digs BB M).length ky1)).setCell ⟨w.heap.size,2,none⟩ (.int .i64 E)=w2 at*
 obtain⟨cP0_1,cP1_1,cP2_1,fP0_1,fP1_1,fP2_1,sP_1⟩:=P4.open3
 obtain⟨o,HTo⟩:=HTP.out w2 _ x4 T4
 have HTo:=Lib.hid HTo
 go_upto_region 3 with
  (first
    |(go_at_call 69;(with_reducible refine(HTo.out).mono ?_);rintro e w11 ⟨rfl,hb11⟩;have B11:=B2.trans (hb11.mono B2.size);have y11:=x4.below hb11;have P11:=P4.below hb11;clear x4 P4;obtain⟨cP0_11,cP1_11,cP2_11,fP0_11,fP1_11,fP2_11,sP_11⟩:=P11.open3)
    |fail)
 cases x1<;>cases x2
 all_goals
  go_wp2_with
   (first
     |(go_at_call 48;(with_reducible refine(HBT.out _ _ y11).mono ?_);rintro e w12 ⟨rfl,hb12⟩;have B12:=B11.trans (hb12.mono B11.size);have y12:=y11.below hb12;have P12:=P11.below hb12;clear y11 P11;obtain⟨cP0_12,cP1_12,cP2_12,fP0_12,fP1_12,fP2_12,sP_12⟩:=P12.open3)
     |fail)
  go_ret
  exact⟨by rw[←hr.out];rfl,by assumption⟩
theorem cdiv_rest {a b:Nat}(h:decide (a%b≠0)=true):cdiv a b=a/b+1:=by
 have h:=of_decide_eq_true h
 unfold cdiv;rw[if_neg h]
theorem cdiv_even {a b:Nat}(h:decide (a%b≠0)=false):cdiv a b=a/b:=by
 have h:a%b=0:=by simpa using h
 unfold cdiv;rw[if_pos h]
set_option maxHeartbeats 2000000 in
theorem units_n {w:World}{v:Value}{neg n' ab:Bool}{A M s U:Nat}{e0 E:Int}(h:Num w v A) (hT:Tab w) (h1: -9223372036854775808≤e0) (h2:e0≤9223372036854775807)
 (q:bareD ⟨neg,A,e0⟩=⟨n',M,E⟩) (sM:bitN M≤20000) (rE: -20000≤E) (rE2:E≤20000) (hs:s≤8900) (hU:unitsN M E s ab=U):
 Calls Tryz.prog 122 #[.agg #[.bool neg,v,.int .i64 e0],.int .i64 (s:Int),.bool ab] w (fun e w'=>∃v,e= .returned v∧RdN w' v (digs BB U)∧Below w.heap.size w w'):=by
 obtain⟨a,n,k,rfl⟩:=h.slice
 have hTlt:=hT.lt
 have hf:fitsE E=true:=by unfold fitsE;rw[Bool.and_eq_true];exact⟨decide_eq_true (by omega),decide_eq_true (by omega)⟩
 have HB:=Lib.hid (fun w v (h:Num w v A) (hT:Tab w)=>Bare_ok h hT h1 h2 q hf)
 have P:=blk_new (w:=w) (T:=63) (c:= #[.bool neg,.slice a n k,.int .i64 e0])
 have B0:=below_alloc w (.cells #[.bool neg,.slice a n k,.int .i64 e0] 63 (0,0))
 have m0:=h.below B0;have T0:=hT.below B0
 clear h hT q hf h1 h2
 unfold unitsN at hU
 obtain⟨t,ht⟩:∃t,E+(s:Int)=t:=⟨_,rfl⟩
 have wt:IntKind.i64.wrap t=t:=by rw[IntKind.wrap_i64];omega
 have wt2:wrap64 t=t:=by unfold wrap64;omega
 rw[ht]at hU
 by_cases h0:0≤t
 ·rw[if_pos h0]at hU
  have d0:decide (0≤t)=true:=decide_eq_true h0
  obtain⟨j,rfl⟩:∃j:Nat,t=(j:Int):=⟨t.toNat,by omega⟩
  rw[Int.toNat_natCast]at hU
  have hjb:j+bitN M≤65536:=by clear hU wt wt2;omega
  have hM6:bitN M≤2560000:=Nat.le_trans sM (by decide)
  have HS:=Lib.hid (fun w v (h:RdN w v (digs BB M))=>shl_n (n:=j) (h.num hM6) hU hjb)
  clear hU h0 sM rE rE2 hs
  go_enter Tryz.func122,Tryz.ntmps122
  go_upto_region 1 with fail
  generalize w.alloc (.cells #[.bool neg,.slice a n k,.int .i64 e0] 63 (0,0))=w0 at*
  obtain⟨cP0,cP1,cP2,fP0,fP1,fP2,sP⟩:=P.open3
  go_upto_region 2 with
   (first
     |(go_at_call 74;(with_reducible refine(HB.out _ _ m0 T0).mono ?_);rintro e w1 ⟨vx1,rfl,x1,hb1⟩;have B1:=B0.trans (hb1.mono B0.size);have m1:=m0.below hb1;have T1:=T0.below hb1;have P1:=P.below hb1;clear m0 T0 P;obtain⟨cP0_1,cP1_1,cP2_1,fP0_1,fP1_1,fP2_1,sP_1⟩:=P1.open3;obtain⟨ax1,kx1,rfl,-⟩:=x1.view;try simp only[List.length_nil]at x1)
     |fail)
  have x2:=x1.set3 P1 dcells (.bool n') (.slice ax1 (digs BB M).length kx1) (.int .i64 E)
  have P4:=P1.set3 (.bool n') (.slice ax1 (digs BB M).length kx1) (.int .i64 E)
  have B2:=below_set3 B1 (Nat.le_refl _) (.bool n') (.slice ax1 (digs BB M).length kx1) (.int .i64 E)
  clear P1 B1 T1 m1 cP0_1 cP1_1 cP2_1 fP0_1 fP1_1 fP2_1 sP_1 hb1 cP0 cP1 cP2 fP0 fP1 fP2 sP
  generalize ((w1.setCell ⟨w.heap.size,0,none⟩ (.bool n')).setCell ⟨w.heap.size,1,none⟩ (.slice ax1 (digs BB M).length kx1)).setCell ⟨w.heap.size,2,none⟩ (.int .i64 E)=w2 at*
  obtain⟨cP0_1,cP1_1,cP2_1,fP0_1,fP1_1,fP2_1,sP_1⟩:=P4.open3
  go_wp2_with
   (first
     |(go_at_call 100;(with_reducible refine(HS.out _ _ x2).mono ?_);rintro e w11 ⟨vy11,rfl,y11,hb11⟩;have B11:=B2.trans (hb11.mono B2.size);have x11:=x2.below hb11;have P11:=P4.below hb11;clear x2 P4;obtain⟨cP0_11,cP1_11,cP2_11,fP0_11,fP1_11,fP2_11,sP_11⟩:=P11.open3)
     |fail)
  go_ret
  exact⟨_,rfl,y11,B11⟩
 ·rw[if_neg h0]at hU
  have d0:decide (0≤t)=false:=decide_eq_false h0
  obtain⟨j,hj⟩:∃j:Nat,-E-(s:Int)=(j:Int):=⟨(-E-(s:Int)).toNat,by omega⟩
  rw[hj,Int.toNat_natCast]at hU
  have hM6:bitN M≤2560000:=by clear hU wt wt2;omega
  have hj5:j≤30000:=by clear hU wt wt2;omega
  have hj6:j≤9223372036854775807:=Nat.le_trans hj5 (by decide)
  have we:wrap64 (-E)= -E:=by clear hU wt wt2;unfold wrap64;omega
  have we2:IntKind.i64.wrap (-E)= -E:=by clear hU wt wt2 we;rw[IntKind.wrap_i64];omega
  have wj:IntKind.i64.wrap (j:Int)=(j:Int):=by clear hU wt wt2 we we2;rw[IntKind.wrap_i64];omega
  have wj2:wrap64 (j:Int)=(j:Int):=by clear hU wt wt2 we we2 wj;unfold wrap64;omega
  obtain⟨rb,hrb⟩:∃r,decide (M%2^j≠0)=r:=⟨_,rfl⟩
  obtain⟨C,hC⟩:∃C,M/2^j=C:=⟨_,rfl⟩
  have HS:Hid (∀(w:World) v,RdN w v (digs BB M)→Tab w→Calls Tryz.prog 116 #[v,.int .i64 (j:Int)] w (fun e w'=>∃v,e= .returned (.tuple #[v,.bool rb])∧RdN w' v (digs BB C)∧Below w.heap.size w w')):=Lib.hid (fun w v h hT=>by
   have:=shr_n (h.num hM6) hT hC hj6
   rw[hrb]at this
   exact this)
  have sC:bitN C≤20000:=Nat.le_trans (bitN_mono (by rw[←hC];exact Nat.div_le_self _ _)) sM
  have HA:Hid (∀(w:World) v u,RdN w v (digs BB C)→RdN w u (digs BB 1)→Calls Tryz.prog 108 #[v,u] w (One w (digs BB (C+1)))):=Lib.hid (fun w v u h k=>add_n (h.num (Nat.le_trans sC (by decide))) (k.num (by rw[bitN_one];decide)) rfl)
  have hUx:U=if rb&&ab then C+1 else C:=by
   rw[←hU]
   cases ab
   ·rw[if_neg (by decide),Bool.and_false,if_neg (by decide),hC]
   ·rw[if_pos rfl,Bool.and_true]
    cases rb
    ·rw[if_neg (by decide),cdiv_even hrb,hC]
    ·rw[if_pos rfl,cdiv_rest hrb,hC]
  have hUx:=Lib.hid hUx
  clear hU h0 sM rE rE2 hs hrb hC sC
  go_enter Tryz.func122,Tryz.ntmps122
  go_upto_region 1 with fail
  generalize w.alloc (.cells #[.bool neg,.slice a n k,.int .i64 e0] 63 (0,0))=w0 at*
  obtain⟨cP0,cP1,cP2,fP0,fP1,fP2,sP⟩:=P.open3
  go_upto_region 2 with
   (first
     |(go_at_call 74;(with_reducible refine(HB.out _ _ m0 T0).mono ?_);rintro e w1 ⟨vx1,rfl,x1,hb1⟩;have B1:=B0.trans (hb1.mono B0.size);have m1:=m0.below hb1;have T1:=T0.below hb1;have P1:=P.below hb1;clear m0 T0 P;obtain⟨cP0_1,cP1_1,cP2_1,fP0_1,fP1_1,fP2_1,sP_1⟩:=P1.open3;obtain⟨ax1,kx1,rfl,-⟩:=x1.view;try simp only[List.length_nil]at x1)
     |fail)
  have x2:=x1.set3 P1 dcells (.bool n') (.slice ax1 (digs BB M).length kx1) (.int .i64 E)
  have P4:=P1.set3 (.bool n') (.slice ax1 (digs BB M).length kx1) (.int .i64 E)
  have B2:=below_set3 B1 (Nat.le_refl _) (.bool n') (.slice ax1 (digs BB M).length kx1) (.int .i64 E)
  have T4:=T1.set3 (Nat.ne_of_lt hTlt) (.bool n') (.slice ax1 (digs BB M).length kx1) (.int .i64 E)
  clear P1 B1 T1 m1 cP0_1 cP1_1 cP2_1 fP0_1 fP1_1 fP2_1 sP_1 hb1 cP0 cP1 cP2 fP0 fP1 fP2 sP
  generalize ((w1.setCell ⟨w.heap.size,0,none⟩ (.bool n')).setCell ⟨w.heap.size,1,none⟩ (.slice ax1 (digs BB M).length kx1)).setCell ⟨w.heap.size,2,none⟩ (.int .i64 E)=w2 at*
  obtain⟨cP0_1,cP1_1,cP2_1,fP0_1,fP1_1,fP2_1,sP_1⟩:=P4.open3
  go_upto_region 6 with
   (first
     |(go_at_call 116;(with_reducible refine(HS.out _ _ x2 T4).mono ?_);rintro e w11 ⟨vy11,rfl,y11,hb11⟩;have B11:=B2.trans (hb11.mono B2.size);have x11:=x2.below hb11;have T11:=T4.below hb11;have P11:=P4.below hb11;clear x2 T4 P4;obtain⟨cP0_11,cP1_11,cP2_11,fP0_11,fP1_11,fP2_11,sP_11⟩:=P11.open3)
     |fail)
  cases rb<;>cases ab
  case true.true=>
   obtain rfl:U=C+1:=by rw[hUx.out];rfl
   go_wp2_with
    (first
      |(go_at_call 101;(with_reducible refine(of_1).mono ?_);rintro e w12 ⟨vo12,rfl,o12,hb12⟩;have B12:=B11.trans (hb12.mono B11.size);have y12:=y11.below hb12;clear y11)
      |(go_at_call 108;(with_reducible refine(HA.out _ _ _ y12 o12).mono ?_);rintro e w13 ⟨vz13,rfl,z13,hb13⟩;have B13:=B12.trans (hb13.mono B12.size);have y13:=y12.below hb13;have o13:=o12.below hb13;clear y12 o12)
      |fail)
   go_ret
   exact⟨_,rfl,z13,B13⟩
  all_goals
   obtain rfl:U=C:=by rw[hUx.out];rfl
   go_wp2_with fail
   go_ret
   exact⟨_,rfl,y11,B11⟩
set_option maxHeartbeats 1000000 in
theorem floor_n {w:World}{v:Value}{neg n':Bool}{A M s U:Nat}{e0 E:Int}(h:Num w v A) (hT:Tab w) (h1: -9223372036854775808≤e0) (h2:e0≤9223372036854775807)
 (q:bareD ⟨neg,A,e0⟩=⟨n',M,E⟩) (sM:bitN M≤20000) (rE: -20000≤E) (rE2:E≤20000) (hs:s≤8900) (hU:unitsN M E s n'=U):
 Calls Tryz.prog 92 #[.agg #[.bool neg,v,.int .i64 e0],.int .i64 (s:Int)] w (fun e w'=>∃v,e= .returned (.agg #[.bool n',v])∧RdN w' v (digs BB U)∧Below w.heap.size w w'):=by
 obtain⟨a,n,k,rfl⟩:=h.slice
 obtain⟨sg',hsg⟩:∃x,signD ⟨neg,A,e0⟩=x:=⟨_,rfl⟩
 have hn:decide (sg'<0)=n':=by rw[←hsg];exact sign_neg q
 have HS:=Lib.hid (fun w v (h:Num w v A)=>Sign_n h hsg)
 have HU:=Lib.hid (fun w v (h:Num w v A) (hT:Tab w)=>units_n h hT h1 h2 q sM rE rE2 hs hU)
 have P:=blk_a1 (w:=w) (T:=63) (c:= #[.bool neg,.slice a n k,.int .i64 e0]) (o:= .cells #[.bool false,.slice none 0 0] 145 (0,0))
 have R:=blk_a2 (w:=w) (T:=145) (o:= .cells #[.bool neg,.slice a n k,.int .i64 e0] 63 (0,0)) (c:= #[.bool false,.slice none 0 0])
 have B0:Below w.heap.size w ((w.alloc (.cells #[.bool neg,.slice a n k,.int .i64 e0] 63 (0,0))).alloc (.cells #[.bool false,.slice none 0 0] 145 (0,0))):=below_2
 have m0:=h.below B0;have T0:=hT.below B0
 clear h hT q sM rE rE2 hs hU hsg
 go_enter Tryz.func92,Tryz.ntmps92
 go_upto_region 1 with fail
 generalize (w.alloc (.cells #[.bool neg,.slice a n k,.int .i64 e0] 63 (0,0))).alloc (.cells #[.bool false,.slice none 0 0] 145 (0,0))=w0 at*
 obtain⟨cP0,cP1,cP2,fP0,fP1,fP2,sP⟩:=P.open3
 go_wp2_with
  (first
    |(go_at_call 26;(with_reducible refine(HS.out _ _ m0).mono ?_);rintro e w1 ⟨rfl,hb1⟩;have B1:=B0.trans (hb1.mono B0.size);have m1:=m0.below hb1;have T1:=T0.below hb1;have P1:=P.below hb1;have R1:=R.below hb1;clear m0 T0 P R;obtain⟨cP0_1,cP1_1,cP2_1,fP0_1,fP1_1,fP2_1,sP_1⟩:=P1.open3;obtain⟨cR0_1,cR1_1,fR0_1,fR1_1,sR_1⟩:=R1.open2)
    |(go_at_call 122;(with_reducible refine(HU.out _ _ m1 T1).mono ?_);rintro e w2 ⟨vy2,rfl,y2,hb2⟩;have B2:=B1.trans (hb2.mono B1.size);have m2:=m1.below hb2;have T2:=T1.below hb2;have P2:=P1.below hb2;have R2:=R1.below hb2;clear m1 T1 P1 R1;clear cP0_1 cP1_1 cP2_1 fP0_1 fP1_1 fP2_1 sP_1;obtain⟨cP0_2,cP1_2,cP2_2,fP0_2,fP1_2,fP2_2,sP_2⟩:=P2.open3;clear cR0_1 cR1_1 fR0_1 fR1_1 sR_1;obtain⟨cR0_2,cR1_2,fR0_2,fR1_2,sR_2⟩:=R2.open2;obtain⟨ay2,ky2,rfl,-⟩:=y2.view;try simp only[List.length_nil]at y2)
    |fail)
 obtain⟨z0,z1,-⟩:=(R2.set2 (.bool n') (.slice ay2 (digs BB U).length ky2)).open2
 refine bodyPost_ret (v:= .agg #[.bool n',.slice ay2 (digs BB U).length ky2]) ?_ rfl ?_
 ·simp[results,Tryz.results92,go_sem,z0,z1]
 ·exact⟨_,rfl,y2.set2 R2 bcells2 _ _,below_set (below_set B2 (by omega) _) (by omega) _⟩
set_option maxHeartbeats 1000000 in
theorem ceil_n {w:World}{v:Value}{neg n':Bool}{A M s U:Nat}{e0 E:Int}(h:Num w v A) (hT:Tab w) (h1: -9223372036854775808≤e0) (h2:e0≤9223372036854775807)
 (q:bareD ⟨neg,A,e0⟩=⟨n',M,E⟩) (sM:bitN M≤20000) (rE: -20000≤E) (rE2:E≤20000) (hs:s≤8900) (hU:unitsN M E s (!n')=U):
 Calls Tryz.prog 93 #[.agg #[.bool neg,v,.int .i64 e0],.int .i64 (s:Int)] w (fun e w'=>∃v,e= .returned (.agg #[.bool n',v])∧RdN w' v (digs BB U)∧Below w.heap.size w w'):=by
 obtain⟨a,n,k,rfl⟩:=h.slice
 obtain⟨sg',hsg⟩:∃x,signD ⟨neg,A,e0⟩=x:=⟨_,rfl⟩
 have hn:decide (sg'<0)=n':=by rw[←hsg];exact sign_neg q
 have HS:=Lib.hid (fun w v (h:Num w v A)=>Sign_n h hsg)
 have HU:=Lib.hid (fun w v (h:Num w v A) (hT:Tab w)=>units_n h hT h1 h2 q sM rE rE2 hs hU)
 have P:=blk_a1 (w:=w) (T:=63) (c:= #[.bool neg,.slice a n k,.int .i64 e0]) (o:= .cells #[.bool false,.slice none 0 0] 145 (0,0))
 have R:=blk_a2 (w:=w) (T:=145) (o:= .cells #[.bool neg,.slice a n k,.int .i64 e0] 63 (0,0)) (c:= #[.bool false,.slice none 0 0])
 have B0:Below w.heap.size w ((w.alloc (.cells #[.bool neg,.slice a n k,.int .i64 e0] 63 (0,0))).alloc (.cells #[.bool false,.slice none 0 0] 145 (0,0))):=below_2
 have m0:=h.below B0;have T0:=hT.below B0
 clear h hT q sM rE rE2 hs hU hsg
 go_enter Tryz.func93,Tryz.ntmps93
 go_upto_region 1 with fail
 generalize (w.alloc (.cells #[.bool neg,.slice a n k,.int .i64 e0] 63 (0,0))).alloc (.cells #[.bool false,.slice none 0 0] 145 (0,0))=w0 at*
 obtain⟨cP0,cP1,cP2,fP0,fP1,fP2,sP⟩:=P.open3
 go_wp2_with
  (first
    |(go_at_call 26;(with_reducible refine(HS.out _ _ m0).mono ?_);rintro e w1 ⟨rfl,hb1⟩;have B1:=B0.trans (hb1.mono B0.size);have m1:=m0.below hb1;have T1:=T0.below hb1;have P1:=P.below hb1;have R1:=R.below hb1;clear m0 T0 P R;obtain⟨cP0_1,cP1_1,cP2_1,fP0_1,fP1_1,fP2_1,sP_1⟩:=P1.open3;obtain⟨cR0_1,cR1_1,fR0_1,fR1_1,sR_1⟩:=R1.open2)
    |(go_at_call 122;(with_reducible refine(HU.out _ _ m1 T1).mono ?_);rintro e w2 ⟨vy2,rfl,y2,hb2⟩;have B2:=B1.trans (hb2.mono B1.size);have m2:=m1.below hb2;have T2:=T1.below hb2;have P2:=P1.below hb2;have R2:=R1.below hb2;clear m1 T1 P1 R1;clear cP0_1 cP1_1 cP2_1 fP0_1 fP1_1 fP2_1 sP_1;obtain⟨cP0_2,cP1_2,cP2_2,fP0_2,fP1_2,fP2_2,sP_2⟩:=P2.open3;clear cR0_1 cR1_1 fR0_1 fR1_1 sR_1;obtain⟨cR0_2,cR1_2,fR0_2,fR1_2,sR_2⟩:=R2.open2;obtain⟨ay2,ky2,rfl,-⟩:=y2.view;try simp only[List.length_nil]at y2)
    |fail)
 obtain⟨z0,z1,-⟩:=(R2.set2 (.bool n') (.slice ay2 (digs BB U).length ky2)).open2
 refine bodyPost_ret (v:= .agg #[.bool n',.slice ay2 (digs BB U).length ky2]) ?_ rfl ?_
 ·simp[results,Tryz.results93,go_sem,z0,z1]
 ·exact⟨_,rfl,y2.set2 R2 bcells2 _ _,below_set (below_set B2 (by omega) _) (by omega) _⟩
end Go.Proofs.YtffaefjkpipjnaaGreatDoor
namespace Go.Proofs.YtffaefjkpipjnaaGreatDoor
set_option maxRecDepth 100000
open Go.RowKit Go.ChangeShapes Go.WideShapes
set_option linter.unusedVariables false
set_option maxHeartbeats 1000000 in
theorem plus_n {w:World}{v u:Value}{neg:Bool}{X Y:Nat}(h:RdN w v (digs BB X)) (h':Num w u Y) (sX:bitN X≤2560000):
 Calls Tryz.prog 97 #[.agg #[.bool neg,v],u] w (fun e w'=>∃nr Z v,e= .returned (.agg #[.bool nr,v])∧sg nr Z=sg neg X+(Y:Int)∧RdN w' v (digs BB Z)∧Below w.heap.size w w'):=by
 have h:=h.num sX
 obtain⟨a,n,k,rfl⟩:=h.slice
 have P:=blk_a1 (w:=w) (T:=145) (c:= #[.bool neg,.slice a n k]) (o:= .cells #[.bool false,.slice none 0 0] 145 (0,0))
 have R:=blk_a2 (w:=w) (T:=145) (o:= .cells #[.bool neg,.slice a n k] 145 (0,0)) (c:= #[.bool false,.slice none 0 0])
 have B0:Below w.heap.size w ((w.alloc (.cells #[.bool neg,.slice a n k] 145 (0,0))).alloc (.cells #[.bool false,.slice none 0 0] 145 (0,0))):=below_2
 have x0:=h.below B0;have y0:=h'.below B0
 clear h h' sX
 cases neg
 ·
  have hv:sg false (X+Y)=sg false X+(Y:Int):=by unfold sg;simp<;>omega
  have hv:=Lib.hid hv
  have HA:=Lib.hid (fun w v u (h:Num w v X) (k:Num w u Y)=>add_n h k rfl)
  go_enter Tryz.func97,Tryz.ntmps97
  go_upto_region 1 with fail
  generalize (w.alloc (.cells #[.bool false,.slice a n k] 145 (0,0))).alloc (.cells #[.bool false,.slice none 0 0] 145 (0,0))=w0 at*
  obtain⟨cP0,cP1,fP0,fP1,sP⟩:=P.open2
  obtain⟨cR0,cR1,fR0,fR1,sR⟩:=R.open2
  go_wp2_with
   (first
     |(go_at_call 108;(with_reducible refine(HA.out _ _ _ x0 y0).mono ?_);rintro e w1 ⟨vz1,rfl,z1,hb1⟩;have B1:=B0.trans (hb1.mono B0.size);have x1:=x0.below hb1;have y1:=y0.below hb1;have P1:=P.below hb1;have R1:=R.below hb1;clear x0 y0 P R;obtain⟨cP0_1,cP1_1,fP0_1,fP1_1,sP_1⟩:=P1.open2;obtain⟨cR0_1,cR1_1,fR0_1,fR1_1,sR_1⟩:=R1.open2;obtain⟨az1,kz1,rfl,-⟩:=z1.view;try simp only[List.length_nil]at z1)
     |fail)
  obtain⟨y0x,y1x,-⟩:=(R1.set2 (.bool false) (.slice az1 (digs BB (X+Y)).length kz1)).open2
  refine bodyPost_ret (v:= .agg #[.bool false,.slice az1 (digs BB (X+Y)).length kz1]) ?_ rfl ?_
  ·simp[results,Tryz.results97,go_sem,y0x,y1x]
  ·exact⟨false,(X+Y),_,rfl,hv.out,z1.set2 R1 bcells2 _ _,below_set (below_set B1 (by omega) _) (by omega) _⟩
 ·by_cases hle:X≤Y
  ·obtain⟨Z,hZ⟩:∃Z,X+Z=Y:=⟨Y-X,by omega⟩
   have hv:sg false Z=sg true X+(Y:Int):=by unfold sg;simp<;>omega
   have hv:=Lib.hid hv
   have HS:=Lib.hid (fun w v u (h:Num w v Y) (k:Num w u X)=>sub_n h k hZ)
   clear hle hZ
   go_enter Tryz.func97,Tryz.ntmps97
   go_upto_region 1 with fail
   generalize (w.alloc (.cells #[.bool true,.slice a n k] 145 (0,0))).alloc (.cells #[.bool false,.slice none 0 0] 145 (0,0))=w0 at*
   obtain⟨cP0,cP1,fP0,fP1,sP⟩:=P.open2
   obtain⟨cR0,cR1,fR0,fR1,sR⟩:=R.open2
   go_wp2_with
    (first
      |(go_at_call 109;(with_reducible refine(HS.out _ _ _ y0 x0).mono ?_);rintro e w1 ⟨vz1,rfl,z1,hb1⟩;have B1:=B0.trans (hb1.mono B0.size);have x1:=x0.below hb1;have y1:=y0.below hb1;have P1:=P.below hb1;have R1:=R.below hb1;clear x0 y0 P R;obtain⟨cP0_1,cP1_1,fP0_1,fP1_1,sP_1⟩:=P1.open2;obtain⟨cR0_1,cR1_1,fR0_1,fR1_1,sR_1⟩:=R1.open2;obtain⟨az1,kz1,rfl,-⟩:=z1.view;try simp only[List.length_nil]at z1)
      |fail)
   obtain⟨y0x,y1x,-⟩:=(R1.set2 (.bool false) (.slice az1 (digs BB Z).length kz1)).open2
   refine bodyPost_ret (v:= .agg #[.bool false,.slice az1 (digs BB Z).length kz1]) ?_ rfl ?_
   ·simp[results,Tryz.results97,go_sem,y0x,y1x]
   ·exact⟨false,Z,_,rfl,hv.out,z1.set2 R1 bcells2 _ _,below_set (below_set B1 (by omega) _) (by omega) _⟩
  ·obtain⟨Z,hZ⟩:∃Z,Y+Z=X:=⟨X-Y,by omega⟩
   have hv:sg true Z=sg true X+(Y:Int):=by unfold sg;simp<;>omega
   have hv:=Lib.hid hv
   have HS:=Lib.hid (fun w v u (h:Num w v Y) (k:Num w u X)=>sub_under h k (show Y<X by omega))
   have HS2:=Lib.hid (fun w v u (h:Num w v X) (k:Num w u Y)=>sub_n h k hZ)
   clear hle hZ
   go_enter Tryz.func97,Tryz.ntmps97
   go_upto_region 1 with fail
   generalize (w.alloc (.cells #[.bool true,.slice a n k] 145 (0,0))).alloc (.cells #[.bool false,.slice none 0 0] 145 (0,0))=w0 at*
   obtain⟨cP0,cP1,fP0,fP1,sP⟩:=P.open2
   obtain⟨cR0,cR1,fR0,fR1,sR⟩:=R.open2
   go_wp2_with
    (first
      |(go_at_call 109;(with_reducible refine(HS.out _ _ _ y0 x0).mono ?_);rintro e w1 ⟨vo1,rfl,o1,hb1⟩;have B1:=B0.trans (hb1.mono B0.size);have x1:=x0.below hb1;have y1:=y0.below hb1;have P1:=P.below hb1;have R1:=R.below hb1;clear x0 y0 P R;obtain⟨cP0_1,cP1_1,fP0_1,fP1_1,sP_1⟩:=P1.open2;obtain⟨cR0_1,cR1_1,fR0_1,fR1_1,sR_1⟩:=R1.open2)
      |(go_at_call 109;(with_reducible refine(HS2.out _ _ _ x1 y1).mono ?_);rintro e w2 ⟨vz2,rfl,z2,hb2⟩;have B2:=B1.trans (hb2.mono B1.size);have x2:=x1.below hb2;have y2:=y1.below hb2;have P2:=P1.below hb2;have R2:=R1.below hb2;have o2:=o1.below hb2;clear x1 y1 P1 R1 o1;clear cP0_1 cP1_1 fP0_1 fP1_1 sP_1;obtain⟨cP0_2,cP1_2,fP0_2,fP1_2,sP_2⟩:=P2.open2;clear cR0_1 cR1_1 fR0_1 fR1_1 sR_1;obtain⟨cR0_2,cR1_2,fR0_2,fR1_2,sR_2⟩:=R2.open2;obtain⟨az2,kz2,rfl,-⟩:=z2.view;try simp only[List.length_nil]at z2)
      |fail)
   obtain⟨y0x,y1x,-⟩:=(R2.set2 (.bool true) (.slice az2 (digs BB Z).length kz2)).open2
   refine bodyPost_ret (v:= .agg #[.bool true,.slice az2 (digs BB Z).length kz2]) ?_ rfl ?_
   ·simp[results,Tryz.results97,go_sem,y0x,y1x]
   ·exact⟨true,Z,_,rfl,hv.out,z2.set2 R2 bcells2 _ _,below_set (below_set B2 (by omega) _) (by omega) _⟩
set_option maxHeartbeats 1000000 in
theorem minus_n {w:World}{v u:Value}{neg:Bool}{X Y:Nat}(h:RdN w v (digs BB X)) (h':Num w u Y) (sX:bitN X≤2560000):
 Calls Tryz.prog 99 #[.agg #[.bool neg,v],u] w (fun e w'=>∃nr Z v,e= .returned (.agg #[.bool nr,v])∧sg nr Z=sg neg X-(Y:Int)∧RdN w' v (digs BB Z)∧Below w.heap.size w w'):=by
 have h:=h.num sX
 obtain⟨a,n,k,rfl⟩:=h.slice
 have P:=blk_a1 (w:=w) (T:=145) (c:= #[.bool neg,.slice a n k]) (o:= .cells #[.bool false,.slice none 0 0] 145 (0,0))
 have R:=blk_a2 (w:=w) (T:=145) (o:= .cells #[.bool neg,.slice a n k] 145 (0,0)) (c:= #[.bool false,.slice none 0 0])
 have B0:Below w.heap.size w ((w.alloc (.cells #[.bool neg,.slice a n k] 145 (0,0))).alloc (.cells #[.bool false,.slice none 0 0] 145 (0,0))):=below_2
 have x0:=h.below B0;have y0:=h'.below B0
 clear h h' sX
 cases neg
 ·by_cases hle:Y≤X
  ·obtain⟨Z,hZ⟩:∃Z,Y+Z=X:=⟨X-Y,by omega⟩
   have hv:sg false Z=sg false X-(Y:Int):=by unfold sg;simp<;>omega
   have hv:=Lib.hid hv
   have HS:=Lib.hid (fun w v u (h:Num w v X) (k:Num w u Y)=>sub_n h k hZ)
   clear hle hZ
   go_enter Tryz.func99,Tryz.ntmps99
   go_upto_region 1 with fail
   generalize (w.alloc (.cells #[.bool false,.slice a n k] 145 (0,0))).alloc (.cells #[.bool false,.slice none 0 0] 145 (0,0))=w0 at*
   obtain⟨cP0,cP1,fP0,fP1,sP⟩:=P.open2
   obtain⟨cR0,cR1,fR0,fR1,sR⟩:=R.open2
   go_wp2_with
    (first
      |(go_at_call 109;(with_reducible refine(HS.out _ _ _ x0 y0).mono ?_);rintro e w1 ⟨vz1,rfl,z1,hb1⟩;have B1:=B0.trans (hb1.mono B0.size);have x1:=x0.below hb1;have y1:=y0.below hb1;have P1:=P.below hb1;have R1:=R.below hb1;clear x0 y0 P R;obtain⟨cP0_1,cP1_1,fP0_1,fP1_1,sP_1⟩:=P1.open2;obtain⟨cR0_1,cR1_1,fR0_1,fR1_1,sR_1⟩:=R1.open2;obtain⟨az1,kz1,rfl,-⟩:=z1.view;try simp only[List.length_nil]at z1)
      |fail)
   obtain⟨y0x,y1x,-⟩:=(R1.set2 (.bool false) (.slice az1 (digs BB Z).length kz1)).open2
   refine bodyPost_ret (v:= .agg #[.bool false,.slice az1 (digs BB Z).length kz1]) ?_ rfl ?_
   ·simp[results,Tryz.results99,go_sem,y0x,y1x]
   ·exact⟨false,Z,_,rfl,hv.out,z1.set2 R1 bcells2 _ _,below_set (below_set B1 (by omega) _) (by omega) _⟩
  ·obtain⟨Z,hZ⟩:∃Z,X+Z=Y:=⟨Y-X,by omega⟩
   have hv:sg true Z=sg false X-(Y:Int):=by unfold sg;simp<;>omega
   have hv:=Lib.hid hv
   have HS:=Lib.hid (fun w v u (h:Num w v X) (k:Num w u Y)=>sub_under h k (show X<Y by omega))
   have HS2:=Lib.hid (fun w v u (h:Num w v Y) (k:Num w u X)=>sub_n h k hZ)
   clear hle hZ
   go_enter Tryz.func99,Tryz.ntmps99
   go_upto_region 1 with fail
   generalize (w.alloc (.cells #[.bool false,.slice a n k] 145 (0,0))).alloc (.cells #[.bool false,.slice none 0 0] 145 (0,0))=w0 at*
   obtain⟨cP0,cP1,fP0,fP1,sP⟩:=P.open2
   obtain⟨cR0,cR1,fR0,fR1,sR⟩:=R.open2
   go_wp2_with
    (first
      |(go_at_call 109;(with_reducible refine(HS.out _ _ _ x0 y0).mono ?_);rintro e w1 ⟨vo1,rfl,o1,hb1⟩;have B1:=B0.trans (hb1.mono B0.size);have x1:=x0.below hb1;have y1:=y0.below hb1;have P1:=P.below hb1;have R1:=R.below hb1;clear x0 y0 P R;obtain⟨cP0_1,cP1_1,fP0_1,fP1_1,sP_1⟩:=P1.open2;obtain⟨cR0_1,cR1_1,fR0_1,fR1_1,sR_1⟩:=R1.open2)
      |(go_at_call 109;(with_reducible refine(HS2.out _ _ _ y1 x1).mono ?_);rintro e w2 ⟨vz2,rfl,z2,hb2⟩;have B2:=B1.trans (hb2.mono B1.size);have x2:=x1.below hb2;have y2:=y1.below hb2;have P2:=P1.below hb2;have R2:=R1.below hb2;have o2:=o1.below hb2;clear x1 y1 P1 R1 o1;clear cP0_1 cP1_1 fP0_1 fP1_1 sP_1;obtain⟨cP0_2,cP1_2,fP0_2,fP1_2,sP_2⟩:=P2.open2;clear cR0_1 cR1_1 fR0_1 fR1_1 sR_1;obtain⟨cR0_2,cR1_2,fR0_2,fR1_2,sR_2⟩:=R2.open2;obtain⟨az2,kz2,rfl,-⟩:=z2.view;try simp only[List.length_nil]at z2)
      |fail)
   obtain⟨y0x,y1x,-⟩:=(R2.set2 (.bool true) (.slice az2 (digs BB Z).length kz2)).open2
   refine bodyPost_ret (v:= .agg #[.bool true,.slice az2 (digs BB Z).length kz2]) ?_ rfl ?_
   ·simp[results,Tryz.results99,go_sem,y0x,y1x]
   ·exact⟨true,Z,_,rfl,hv.out,z2.set2 R2 bcells2 _ _,below_set (below_set B2 (by omega) _) (by omega) _⟩
 ·
  have hv:sg true (X+Y)=sg true X-(Y:Int):=by unfold sg;simp<;>omega
  have hv:=Lib.hid hv
  have HA:=Lib.hid (fun w v u (h:Num w v X) (k:Num w u Y)=>add_n h k rfl)
  go_enter Tryz.func99,Tryz.ntmps99
  go_upto_region 1 with fail
  generalize (w.alloc (.cells #[.bool true,.slice a n k] 145 (0,0))).alloc (.cells #[.bool false,.slice none 0 0] 145 (0,0))=w0 at*
  obtain⟨cP0,cP1,fP0,fP1,sP⟩:=P.open2
  obtain⟨cR0,cR1,fR0,fR1,sR⟩:=R.open2
  go_wp2_with
   (first
     |(go_at_call 108;(with_reducible refine(HA.out _ _ _ x0 y0).mono ?_);rintro e w1 ⟨vz1,rfl,z1,hb1⟩;have B1:=B0.trans (hb1.mono B0.size);have x1:=x0.below hb1;have y1:=y0.below hb1;have P1:=P.below hb1;have R1:=R.below hb1;clear x0 y0 P R;obtain⟨cP0_1,cP1_1,fP0_1,fP1_1,sP_1⟩:=P1.open2;obtain⟨cR0_1,cR1_1,fR0_1,fR1_1,sR_1⟩:=R1.open2;obtain⟨az1,kz1,rfl,-⟩:=z1.view;try simp only[List.length_nil]at z1)
     |fail)
  obtain⟨y0x,y1x,-⟩:=(R1.set2 (.bool true) (.slice az1 (digs BB (X+Y)).length kz1)).open2
  refine bodyPost_ret (v:= .agg #[.bool true,.slice az1 (digs BB (X+Y)).length kz1]) ?_ rfl ?_
  ·simp[results,Tryz.results99,go_sem,y0x,y1x]
  ·exact⟨true,(X+Y),_,rfl,hv.out,z1.set2 R1 bcells2 _ _,below_set (below_set B1 (by omega) _) (by omega) _⟩
end Go.Proofs.YtffaefjkpipjnaaGreatDoor
