/- planimeterref12's shift, Right, Wide, Atanh by their contracts. Conditions: the numbers are short. -/
import Derived.Test.YtffaefjkpipjnaaGreatDoorPkC12
import Derived.Test.YtffaefjkpipjnaaGreatDoorPkC17
import Derived.Test.YtffaefjkpipjnaaGreatDoorPkC20
import Derived.Test.YtffaefjkpipjnaaGreatDoorPkC13
import Derived.Test.YtffaefjkpipjnaaGreatDoorPkC01
import Derived.Test.YtffaefjkpipjnaaGreatDoorPkC19
import Derived.Test.YtffaefjkpipjnaaGreatDoorPkC16
namespace Go.Proofs.YtffaefjkpipjnaaGreatDoor
set_option maxRecDepth 100000
open Go.RowKit Go.ChangeShapes Go.WideShapes
set_option linter.unusedVariables false
end Go.Proofs.YtffaefjkpipjnaaGreatDoor
namespace Go.Proofs.YtffaefjkpipjnaaGreatDoor
set_option maxRecDepth 100000
open Go.RowKit Go.ChangeShapes Go.WideShapes
set_option linter.unusedVariables false
end Go.Proofs.YtffaefjkpipjnaaGreatDoor
namespace Go.Proofs.YtffaefjkpipjnaaGreatDoor
set_option maxRecDepth 100000
open Go.RowKit Go.ChangeShapes Go.WideShapes
set_option linter.unusedVariables false
theorem AtOk.bits {A B s L H:Nat}(h:AtOk A B s L H) (s1:8≤s) (s2:s≤9000):bitN L≤20000∧bitN H≤20000:=by
 have h0:=Nat.two_pow_pos s
 have h1:=h.short
 have h2:=h.wide
 have h3:s*2^s≤9000*2^s:=Nat.mul_le_mul_right _ s2
 have hb:∀x,x≤20000*2^s→bitN x≤20000:=fun x hx=>Nat.le_trans (bitN_le.2 (show x<2^(s+15)by rw[Nat.pow_add];omega)) (by omega)
 exact⟨hb _ (by omega),hb _ (by omega)⟩
theorem of_3 {w:World}:Calls Tryz.prog 101 #[.int .u64 3] w (One w (digs BB 3)):=of_n (n:=3) (by decide)
theorem ln2_det {w:World}{s:Nat}(hT:Tab w) (s1:8≤s) (s2:s≤9000):
 Calls Tryz.prog 66 #[.int .i64 (s:Int)] w fun e w'=>∃vl vh L H,e= .returned (.tuple #[vl,vh,.int .i64 0])∧RdN w' vl (digs BB (L+L))∧RdN w' vh (digs BB (H+H))∧(AtOk 1 3 s L H∧AtDet 1 3 s L H)∧Below w.heap.size w w':=by
 have b1:bitN 1≤4096:=by rw[bitN_one];omega
 have b3:bitN 3≤4096:=Nat.le_trans (bitN_le.2 (show 3<2^2 by decide)) (by omega)
 have HA:=Lib.hid (fun w v u (h:Num w v 1) (k:Num w u 3) (hT:Tab w)=>Atanh_det h k hT s1 s2 b1 b3 (by omega) (by omega) (by omega))
 have KT:=Lib.hid (fun L H (h:AtOk 1 3 s L H)=>h.bits s1 s2)
 go_enter Tryz.func66,Tryz.ntmps66
 go_wp2_with
  (first
    |(go_at_call 101;(with_reducible refine(of_1).mono ?_);rintro e w1 ⟨vx1,rfl,x1,hb1⟩;have B1:=hb1;have T1:=hT.below hb1;clear hT)
    |(go_at_call 101;(with_reducible refine(of_3).mono ?_);rintro e w2 ⟨vy2,rfl,y2,hb2⟩;have B2:=B1.trans (hb2.mono B1.size);have T2:=T1.below hb2;have x2:=x1.below hb2;clear T1 x1)
    |(go_at_call 64;(with_reducible refine(HA.out _ _ _ (x2.num (by omega)) (y2.num (by omega)) T2).mono ?_);rintro e w3 ⟨vl,vh,L,H,rfl,l3,h3,ok,hb3⟩;have B3:=B2.trans (hb3.mono B2.size);have T3:=T2.below hb3;have x3:=x2.below hb3;have y3:=y2.below hb3;clear T2 x2 y2;obtain⟨bl,bh⟩:=KT.out _ _ ok.1)
    |(go_at_call 108;(with_reducible refine(add_n (l3.num (by omega)) (l3.num (by omega)) rfl).mono ?_);rintro e w4 ⟨vp4,rfl,p4,hb4⟩;have B4:=B3.trans (hb4.mono B3.size);have T4:=T3.below hb4;have x4:=x3.below hb4;have y4:=y3.below hb4;have l4:=l3.below hb4;have h4:=h3.below hb4;clear T3 x3 y3 l3 h3)
    |(go_at_call 108;(with_reducible refine(add_n (h4.num (by omega)) (h4.num (by omega)) rfl).mono ?_);rintro e w5 ⟨vq5,rfl,q5,hb5⟩;have B5:=B4.trans (hb5.mono B4.size);have T5:=T4.below hb5;have x5:=x4.below hb5;have y5:=y4.below hb5;have l5:=l4.below hb5;have h5:=h4.below hb5;have p5:=p4.below hb5;clear T4 x4 y4 l4 h4 p4)
    |fail)
 go_ret3
 exact⟨_,_,_,_,rfl,p5,q5,ok,B5⟩
theorem cmpN_ge' {a b:Nat}(h:b≤a):0≤cmpN a b:=by
 unfold cmpN
 rw[if_neg (by omega)]
 split<;>decide
end Go.Proofs.YtffaefjkpipjnaaGreatDoor
namespace Go.Proofs.YtffaefjkpipjnaaGreatDoor
set_option maxRecDepth 100000
open Go.RowKit Go.ChangeShapes Go.WideShapes
set_option linter.unusedVariables false
theorem nsmall_s {w:World}{v:Value}{A:Nat}(h:RdN w v (digs BB A)) (hA:A<BB):Calls Tryz.prog 95 #[v] w (fun e w'=>e= .returned (.tuple #[L64 A,.bool true])∧Below w.heap.size w w'):=by
 have hl:(digs BB A).length≤1:=by
  by_cases h0:A=0
  ·rw[h0,digs_zero];exact Nat.zero_le _
  ·rw[digs_pos BB_two (by omega),show A/BB=0 from Nat.div_eq_of_lt hA,digs_zero];exact Nat.le_refl _
 have hs:strip (digs BB A)=digs BB A:=by
  have:=strip_eq BB_two (dig_digs BB_two A)
  rw[val_digs BB_two]at this;exact this
 have hv:(digs BB A).getD 0 0=A:=by
  by_cases h0:A=0
  ·rw[h0,digs_zero];rfl
  ·rw[digs_pos BB_two (by omega)];exact Nat.mod_eq_of_lt hA
 have:=small_any h (by omega)
 rw[hs,if_pos hl,hv,decide_eq_true hl]at this
 exact this
end Go.Proofs.YtffaefjkpipjnaaGreatDoor
namespace Go.Proofs.YtffaefjkpipjnaaGreatDoor
set_option maxRecDepth 100000
open Go.RowKit Go.ChangeShapes Go.WideShapes
set_option linter.unusedVariables false
section
variable {w:World}{v u:Value}{A B s:Nat}
set_option maxHeartbeats 4000000 in
theorem Exp_ok (h:Num w v A) (k:Num w u B) (hT:Tab w) (s1:8≤s) (s2:s≤9000) (hAB:A≤B) (hB:B≤2^s):
 Calls Tryz.prog 61 #[v,u,.int .i64 (s:Int)] w fun e w'=>∃vl vh L H,e= .returned (.tuple #[vl,vh,.int .i64 0])∧RdN w' vl (digs BB L)∧RdN w' vh (digs BB H)∧ExOk A B s L H∧Below w.heap.size w w':=by
 have hS:0<2^s:=Nat.two_pow_pos s
 obtain⟨c1,e1⟩:∃c,cmpN A B=c:=⟨_,rfl⟩
 have dc1:decide (0<c1)=false:=decide_eq_false (by have:=cmpN_le' hAB;omega)
 obtain⟨c2,e2⟩:∃c,cmpN B (2^s)=c:=⟨_,rfl⟩
 have dc2:decide (0<c2)=false:=decide_eq_false (by have:=cmpN_le' hB;omega)
 have sS:bitN (2^s)≤9010:=bits_s s2 (by omega)
 have sA:bitN A≤9010:=bits_s s2 (by omega)
 have sB:bitN B≤9010:=bits_s s2 (by omega)
 have HSH:Hid (∀w v,Num w v 1→Calls Tryz.prog 100 #[v,.int .i64 (s:Int)] w (OneZ w (2^s))):=Lib.hid (fun w v h=>shl_n (n:=s) h (Nat.one_mul _) (by rw[bitN_one];omega))
 have E1:=Lib.hid e1;have E2:=Lib.hid e2
 have hg0:=hT.lt
 clear e1 e2
 go_enter Tryz.func61,Tryz.ntmps61
 go_upto_region 8 with
  (first
    |(go_at_call 103;(with_reducible refine(scale_ok s1 s2).mono ?_);rintro e w1 ⟨rfl,rfl⟩)
    |(go_at_call 102;(with_reducible refine(cmp_n h k E1.out).mono ?_);rintro e w2 ⟨rfl,hb2⟩;have B2:=hb2;have m2:=h.below hb2;have g2:=k.below hb2;have T2:=hT.below hb2;clear h k hT)
    |(go_at_call 101;(with_reducible refine(of_1).mono ?_);rintro e w3 ⟨vo3,rfl,o3,hb3⟩;have B3:=B2.trans (hb3.mono B2.size);have m3:=m2.below hb3;have g3:=g2.below hb3;have T3:=T2.below hb3;clear m2 g2 T2)
    |(go_at_call 100;(with_reducible refine(HSH.out _ _ (o3.num (by rw[bitN_one];omega))).mono ?_);rintro e w4 ⟨vs4,rfl,s4,hb4⟩;have B4:=B3.trans (hb4.mono B3.size);have m4:=m3.below hb4;have g4:=g3.below hb4;have T4:=T3.below hb4;have o4:=o3.below hb4;clear m3 g3 T3 o3;obtain⟨as4,ks4,rfl,-⟩:=s4.view;try simp only[List.length_nil]at s4)
    |(go_at_call 102;(with_reducible refine(cmp_n g4 (s4.num (by omega)) E2.out).mono ?_);rintro e w5 ⟨rfl,hb5⟩;have B5:=B4.trans (hb5.mono B4.size);have m5:=m4.below hb5;have g5:=g4.below hb5;have T5:=T4.below hb5;have o5:=o4.below hb5;have s5:=s4.below hb5;clear m4 g4 T4 o4 s4)
    |(go_at_call 75;(with_reducible refine(bare_n m5).mono ?_);rintro e w6 ⟨va6,rfl,a6,hb6⟩;have B6:=B5.trans (hb6.mono B5.size);have m6:=m5.below hb6;have g6:=g5.below hb6;have T6:=T5.below hb6;have o6:=o5.below hb6;have s6:=s5.below hb6;clear m5 g5 T5 o5 s5;obtain⟨aa6,ka6,rfl,-⟩:=a6.view;try simp only[List.length_nil]at a6)
    |(go_at_call 75;(with_reducible refine(bare_n g6).mono ?_);rintro e w7 ⟨vb7,rfl,b7,hb7⟩;have B7:=B6.trans (hb7.mono B6.size);have m7:=m6.below hb7;have g7:=g6.below hb7;have T7:=T6.below hb7;have o7:=o6.below hb7;have s7:=s6.below hb7;have a7:=a6.below hb7;clear m6 g6 T6 o6 s6 a6;obtain⟨ab7,kb7,rfl,-⟩:=b7.view;try simp only[List.length_nil]at b7)
    |fail)
 have l0:w1.heap.size≤w7.heap.size:=B7.size
 have I1:InP (((w7.alloc (.cells #[.slice aa6 (digs BB A).length ka6,.slice ab7 (digs BB B).length kb7] 157 (0,0))).alloc (.cells #[.slice as4 (digs BB (2^s)).length ks4,.slice as4 (digs BB (2^s)).length ks4] 157 (0,0))).alloc (.cells #[.slice as4 (digs BB (2^s)).length ks4,.slice as4 (digs BB (2^s)).length ks4] 157 (0,0))) w7.heap.size ⟨A,B⟩:=⟨_,_,_,_,_,_,blk3_1,a7.below below_3,b7.below below_3⟩
 have I2:InP (((w7.alloc (.cells #[.slice aa6 (digs BB A).length ka6,.slice ab7 (digs BB B).length kb7] 157 (0,0))).alloc (.cells #[.slice as4 (digs BB (2^s)).length ks4,.slice as4 (digs BB (2^s)).length ks4] 157 (0,0))).alloc (.cells #[.slice as4 (digs BB (2^s)).length ks4,.slice as4 (digs BB (2^s)).length ks4] 157 (0,0))) (w7.heap.size+1) (exS ⟨A,B⟩ (2^s) 0):=⟨_,_,_,_,_,_,blk3_2,s7.below below_3,s7.below below_3⟩
 have I3:InP (((w7.alloc (.cells #[.slice aa6 (digs BB A).length ka6,.slice ab7 (digs BB B).length kb7] 157 (0,0))).alloc (.cells #[.slice as4 (digs BB (2^s)).length ks4,.slice as4 (digs BB (2^s)).length ks4] 157 (0,0))).alloc (.cells #[.slice as4 (digs BB (2^s)).length ks4,.slice as4 (digs BB (2^s)).length ks4] 157 (0,0))) (w7.heap.size+1+1) (exP ⟨A,B⟩ (2^s) 0):=⟨_,_,_,_,_,_,blk3_3,s7.below below_3,s7.below below_3⟩
 have T0:Tab (((w7.alloc (.cells #[.slice aa6 (digs BB A).length ka6,.slice ab7 (digs BB B).length kb7] 157 (0,0))).alloc (.cells #[.slice as4 (digs BB (2^s)).length ks4,.slice as4 (digs BB (2^s)).length ks4] 157 (0,0))).alloc (.cells #[.slice as4 (digs BB (2^s)).length ks4,.slice as4 (digs BB (2^s)).length ks4] 157 (0,0))):=T7.below below_3
 have B0:Below w1.heap.size w1 (((w7.alloc (.cells #[.slice aa6 (digs BB A).length ka6,.slice ab7 (digs BB B).length kb7] 157 (0,0))).alloc (.cells #[.slice as4 (digs BB (2^s)).length ks4,.slice as4 (digs BB (2^s)).length ks4] 157 (0,0))).alloc (.cells #[.slice as4 (digs BB (2^s)).length ks4,.slice as4 (digs BB (2^s)).length ks4] 157 (0,0))):=B7.trans (below_3.mono B7.size)
 clear m7 g7 o7 s7 a7 b7 T7 B2 B3 B4 B5 B6 B7 hb2 hb3 hb4 hb5 hb6 hb7
 generalize ((w7.alloc (.cells #[.slice aa6 (digs BB A).length ka6,.slice ab7 (digs BB B).length kb7] 157 (0,0))).alloc (.cells #[.slice as4 (digs BB (2^s)).length ks4,.slice as4 (digs BB (2^s)).length ks4] 157 (0,0))).alloc (.cells #[.slice as4 (digs BB (2^s)).length ks4,.slice as4 (digs BB (2^s)).length ks4] 157 (0,0))=w8 at*
 obtain⟨bx,hbx⟩:∃b,b=w7.heap.size:=⟨_,rfl⟩
 rw[←hbx]at I1 I2 I3 l0⊢
 clear hbx
 have HP:=Lib.hid (fun k=>And.intro (exP_small (X:=⟨A,B⟩) (S:=2^s) hS hB k) (exP_le (X:=⟨A,B⟩) (S:=2^s) hAB k))
 have HS:=Lib.hid (fun k=>And.intro (exS_small (X:=⟨A,B⟩) (S:=2^s) hS hB k) (exS_le (X:=⟨A,B⟩) (S:=2^s) hAB k))
 have HPb:Hid (∀k,bitN (exP ⟨A,B⟩ (2^s) k).lo≤9010∧bitN (exP ⟨A,B⟩ (2^s) k).hi≤9010):=Lib.hid (fun k=>by
  obtain⟨a1,a2⟩:=HP.out k
  exact⟨bits_s s2 (by omega),bits_s s2 (by omega)⟩)
 have HSb:Hid (∀k,k≤s+2→bitN (exS ⟨A,B⟩ (2^s) k).lo≤20000∧bitN (exS ⟨A,B⟩ (2^s) k).hi≤20000):=Lib.hid (fun k hk=>by
  obtain⟨a1,a2⟩:=HS.out k
  have a5:(k+1)*2^s≤(s+3)*2^s:=Nat.mul_le_mul_right _ (by omega)
  exact⟨bits_sum s2 (by omega),bits_sum s2 (by omega)⟩)
 have hend:=Lib.hid (fun k=>exP_end (X:=⟨A,B⟩) (s:=s) (k:=k) hB)
 have hok:=Lib.hid (fun k=>exS_ok (A:=A) (B:=B) (s:=s) (k:=k) s1 hAB hB)
 have hzero:Hid (∀k,B=0→(exP ⟨A,B⟩ (2^s) (k+1)).hi=0):=Lib.hid (fun k e=>by
  rw[exP_succ]
  show cdiv (cdiv ((exP ⟨A,B⟩ (2^s) k).hi*B) (2^s)) (k+1)=0
  rw[e,Nat.mul_zero,cdiv_zero,cdiv_zero])
 have hwx:Hid (∀k,bitN ((exP ⟨A,B⟩ (2^s) k).times ⟨A,B⟩ (2^s)).lo≤9010∧bitN ((exP ⟨A,B⟩ (2^s) k).times ⟨A,B⟩ (2^s)).hi≤9010):=Lib.hid (fun k=>by
  obtain⟨a1,a2⟩:=HP.out k
  have h1:cdiv ((exP ⟨A,B⟩ (2^s) k).hi*B) (2^s)≤(exP ⟨A,B⟩ (2^s) k).hi:=cdiv_le_of hS (Nat.mul_le_mul_left _ hB)
  have h2:((exP ⟨A,B⟩ (2^s) k).lo*A)/(2^s)≤(exP ⟨A,B⟩ (2^s) k).lo:=Nat.div_le_of_le_mul (by rw[Nat.mul_comm];exact Nat.mul_le_mul_right _ (Nat.le_trans hAB hB))
  refine⟨bits_s s2 ?_,bits_s s2 ?_⟩
  ·show((exP ⟨A,B⟩ (2^s) k).lo*A)/(2^s)≤_;omega
  ·show cdiv ((exP ⟨A,B⟩ (2^s) k).hi*B) (2^s)≤_;omega)
 clear dc1 dc2 E1 E2 HSH hS hAB
 go_wp2_with fail
 go_loopw [14] (fun n wr=>∃k:Nat,n=L64 (k+1)∧k≤s+1∧(k=0∨1<(exP ⟨A,B⟩ (2^s) k).hi)∧InP wr bx ⟨A,B⟩∧InP wr (bx+1) (exS ⟨A,B⟩ (2^s) k)∧InP wr (bx+1+1) (exP ⟨A,B⟩ (2^s) k)∧Tab wr∧Below w1.heap.size w1 wr) (fun n _=>2*s+10-(intOf n).toNat)
 case atStart=>exact⟨0,rfl,by omega,.inl rfl,I1,I2,I3,T0,B0⟩
 case round=>
  clear I1 I2 I3 T0 B0
  obtain⟨k,rfl,hk,hor,Ix,Is,It,T1,B1⟩:=hrel
  obtain⟨nn,hnk⟩:∃nn,k+1=nn:=⟨_,rfl⟩
  rw[hnk]
  obtain⟨bT1,bT2⟩:=HPb.out k
  obtain⟨bT3,bT4⟩:=HPb.out (k+1)
  obtain⟨bS1,bS2⟩:=HSb.out k (by omega)
  obtain⟨bW1,bW2⟩:=hwx.out k
  obtain⟨ta,tn,tk,tb,tm,tj,PT,xT,yT⟩:=id It
  obtain⟨xa,xn,xk,xb,xm,xj,PX,xX,yX⟩:=id Ix
  obtain⟨b0,eb0⟩:∃b,bitN (exP ⟨A,B⟩ (2^s) k).lo=b:=⟨_,rfl⟩
  obtain⟨b1,eb1⟩:∃b,bitN B=b:=⟨_,rfl⟩
  have hb:0<b0+b1:=by
   rcases Nat.eq_zero_or_pos k with h|hk0
   ·subst h
    have:b0≠0:=fun e=>by
     have:=eq_zero_of_bitN (eb0.trans e)
     have h2:=Nat.two_pow_pos s
     rw[show(exP ⟨A,B⟩ (2^s) 0).lo=2^s from rfl]at this
     omega
    omega
   ·rcases Nat.eq_zero_or_pos b1 with h1|h1
    ·exfalso
     obtain⟨j,rfl⟩:∃j,k=j+1:=⟨k-1,by omega⟩
     have:=hzero.out j (eq_zero_of_bitN (eb1.trans h1))
     omega
    ·omega
  have wsum:IntKind.i64.wrap ((b0:Int)+(b1:Int))=(b0:Int)+(b1:Int):=by rw[IntKind.wrap_i64];omega
  have dsum:decide (0<(b0:Int)+(b1:Int))=true:=decide_eq_true (by omega)
  have Eb0:=Lib.hid eb0;have Eb1:=Lib.hid eb1
  clear eb0 eb1 hb
  obtain⟨c0,c1,g0,g1,-⟩:=PT.open2
  obtain⟨c2,c3,g2,g3,-⟩:=PX.open2
  have D:Below wr.heap.size wr wr.drew:=below_drewN (Below.refl _ _) 1
  have xTd:=xT.below D;have yTd:=yT.below D;have xXd:=xX.below D;have yXd:=yX.below D;have PTd:=PT.below D;have PXd:=PX.below D
  have Ixd:=Ix.below D;have Isd:=Is.below D;have Itd:=It.below D;have Td:=T1.below D;have Bd:=B1.trans (D.mono B1.size)
  have k2:=Lib.hid (cells22 PTd PXd)
  clear D xT yT xX yX Ix Is It T1 B1 PT PX
  go_upto_region 9 with fail
  go_region_held3 (fun w'=>w'.cell? ⟨bx+1+1,0,none⟩=some (.slice ta tn tk)∧w'.cell? ⟨bx+1+1,1,none⟩=some (.slice tb tm tj)∧w'.cell? ⟨bx,0,none⟩=some (.slice xa xn xk)∧w'.cell? ⟨bx,1,none⟩=some (.slice xb xm xj))
   (first|exact k2.out|exact k3.out|exact k4.out)
   (first
     |(go_at_call 48;(with_reducible refine(bits_n (xTd.num (by omega)) Eb0.out).mono ?_);rintro e w3 ⟨rfl,h3⟩;have yX3:=yXd.below h3;have xX3:=xXd.below h3;have xT3:=xTd.below h3;have yT3:=yTd.below h3;have PT3:=PTd.below h3;have PX3:=PXd.below h3;have k3:=Lib.hid (cells22 PT3 PX3);have Ix3:=Ixd.below h3;have Is3:=Isd.below h3;have It3:=Itd.below h3;have T3:=Td.below h3;have B3:=Bd.trans (h3.mono Bd.size))
     |(go_at_call 48;(with_reducible refine(bits_n (yX3.num (by omega)) Eb1.out).mono ?_);rintro e w4 ⟨rfl,h4⟩;have yX4:=yX3.below h4;have xX4:=xX3.below h4;have xT4:=xT3.below h4;have yT4:=yT3.below h4;have PT4:=PT3.below h4;have PX4:=PX3.below h4;have k4:=Lib.hid (cells22 PT4 PX4);have Ix4:=Ix3.below h4;have Is4:=Is3.below h4;have It4:=It3.below h4;have T4:=T3.below h4;have B4:=B3.trans (h4.mono B3.size))
     |fail)
  go_upto_region 11 with fail
  clear xTd yTd xXd yXd PTd PXd Ixd Isd Itd Td Bd k2 yX3 xX3 xT3 yT3 PT3 PX3 k3 Ix3 Is3 It3 T3 B3 k4 c0 c1 c2 c3 g0 g1 g2 g3 h3 h4 Eb0 Eb1
  have hor0:=Lib.hid hor
  clear hor
  obtain⟨Tk,hTk⟩:∃T,T=exP ⟨A,B⟩ (2^s) k:=⟨_,rfl⟩
  obtain⟨Sk,hSk⟩:∃T,T=exS ⟨A,B⟩ (2^s) k:=⟨_,rfl⟩
  obtain⟨T',hT'⟩:∃T',T'=exP ⟨A,B⟩ (2^s) (k+1):=⟨_,rfl⟩
  obtain⟨S',hS'⟩:∃S',S'=exS ⟨A,B⟩ (2^s) (k+1):=⟨_,rfl⟩
  rw[←hTk]at It4 xT4 yT4 bT1 bT2 bW1 bW2
  rw[←hSk]at Is4 bS1 bS2
  rw[←hT']at bT3 bT4
  have hTs:Hid (T'=(Tk.times ⟨A,B⟩ (2^s)).by nn):=Lib.hid (by rw[hT',hTk,←hnk];rfl)
  have hSs:Hid (S'=Sk.plus T'):=Lib.hid (by rw[hS',hSk,hT'];rfl)
  have hTk':=Lib.hid hTk;have hSk':=Lib.hid hSk;have hT2:=Lib.hid hT';have hS2:=Lib.hid hS'
  clear hTk hSk hT' hS'
  have hn:nn<BB:=by rw[show BB=18446744073709551616 from rfl];omega
  have hnn:nn≠0:=by omega
  have sA':bitN (Pr.mk A B).lo≤9010:=sA
  have sB':bitN (Pr.mk A B).hi≤9010:=sB
  go_cut [] (fun wx=>InP wx bx ⟨A,B⟩∧InP wx (bx+1) Sk∧InP wx (bx+1+1) T'∧Tab wx∧Below w1.heap.size w1 wx)
  case first=>
   obtain⟨c0,c1,g0,g1,-⟩:=PT4.open2
   obtain⟨c2,c3,g2,g3,-⟩:=PX4.open2
   go_wp2_with
    (first
      |(go_at_call 104;(with_reducible refine(ptimes_n (n:=s) (p:=Tk) (q:=⟨A,B⟩) (xT4.num (by omega)) (yT4.num (by omega)) (xX4.num (by omega)) (yX4.num (by omega)) T4 (by omega) (by omega) (by omega) (by omega) (by omega)).mono ?_);rintro e w6 ⟨pa,pn,pk,pb,pm,pj,rfl,x6,y6,h6⟩;have It6:=It4.below h6;have Ix6:=Ix4.below h6;have Is6:=Is4.below h6;have T6:=T4.below h6;have B6:=B4.trans (h6.mono B4.size);have PT6:=PT4.below h6)
      |(go_at_call 105;(with_reducible refine(pby_n (p:=Tk.times ⟨A,B⟩ (2^s)) (n:=nn) (x6.num (by omega)) (y6.num (by omega)) hn hnn (by omega)).mono ?_);rintro e w7 ⟨qa,qn,qk,qb,qm,qj,rfl,x7,y7,h7⟩;have It7:=It6.below h7;have Ix7:=Ix6.below h7;have Is7:=Is6.below h7;have T7:=T6.below h7;have B7:=B6.trans (h7.mono B6.size);have PT7:=PT6.below h7;obtain⟨d0,d1,f0,f1,-⟩:=PT7.open2)
      |fail)
   go_meet
   refine⟨Ix7.other It7 (by omega) _ _,Is7.other It7 (by omega) _ _,It7.store (by rw[hTs.out];exact x7) (by rw[hTs.out];exact y7),T7.set2 (by omega) _ _,below_set (below_set B7 (by omega) _) (by omega) _⟩
  case rest=>
   clear Ix4 Is4 It4 T4 B4 PT4 PX4 xT4 yT4 xX4 yX4 hTs bW1 bW2 bT1 bT2
   obtain⟨Ix,Is,It,T1,B1⟩:=hcut
   go_upto_region 12 with fail
   go_cut [] (fun wx=>InP wx bx ⟨A,B⟩∧InP wx (bx+1) S'∧InP wx (bx+1+1) T'∧Tab wx∧Below w1.heap.size w1 wx)
   case first=>
    obtain⟨ta,tn,tk,tb,tm,tj,PT,xT,yT⟩:=id It
    obtain⟨xa,xn,xk,xb,xm,xj,PS,xS,yS⟩:=id Is
    obtain⟨c0,c1,g0,g1,-⟩:=PT.open2
    obtain⟨c2,c3,g2,g3,-⟩:=PS.open2
    go_wp2_with
     (first
       |(go_at_call 106;(with_reducible refine(pplus_n (p:=Sk) (q:=T') (xS.num (by omega)) (yS.num (by omega)) (xT.num (by omega)) (yT.num (by omega))).mono ?_);rintro e w6 ⟨pa,pn,pk,pb,pm,pj,rfl,x6,y6,h6⟩;have It6:=It.below h6;have Ix6:=Ix.below h6;have Is6:=Is.below h6;have T6:=T1.below h6;have B6:=B1.trans (h6.mono B1.size);have PS6:=PS.below h6;obtain⟨d0,d1,f0,f1,-⟩:=PS6.open2)
       |fail)
    go_meet
    refine⟨Ix6.other Is6 (by omega) _ _,Is6.store (by rw[hSs.out];exact x6) (by rw[hSs.out];exact y6),It6.other Is6 (by omega) _ _,T6.set2 (by omega) _ _,below_set (below_set B6 (by omega) _) (by omega) _⟩
   case rest=>
    clear Ix Is It T1 B1 hSs bS1 bS2
    obtain⟨Ix,Is,It,T1,B1⟩:=hcut
    go_upto_region 13 with fail
    have Hok:=Lib.hid (hok.out k)
    have He:=Lib.hid (hend.out k)
    rw[←hS2.out,←hT2.out]at Hok
    rw[←hT2.out]at He
    obtain⟨bS1,bS2⟩:=HSb.out (k+1) (by omega)
    rw[←hS2.out]at bS1 bS2
    obtain⟨ta,tn,tk,tb,tm,tj,PT,xT,yT⟩:=id It
    obtain⟨sa,sn,sk,sb,sm,sj,PS,xS,yS⟩:=id Is
    obtain⟨c0,c1,g0,g1,-⟩:=PT.open2
    obtain⟨c2,c3,g2,g3,-⟩:=PS.open2
    obtain⟨b2,eb2⟩:∃b,bitN T'.hi=b:=⟨_,rfl⟩
    have Eb2:=Lib.hid eb2
    by_cases hle:T'.hi≤1
    ·have hb2:b2≤1:=by rw[←eb2];exact bitN_le.2 (by omega)
     have db:decide ((b2:Int)≤1)=true:=decide_eq_true (by omega)
     have hks:k≤s:=by
      rcases Nat.eq_zero_or_pos k with h|h
      ·omega
      ·have:=hor0.out
       rcases this with h1|h1
       ·omega
       ·obtain⟨j,rfl⟩:∃j,k=j+1:=⟨k-1,by omega⟩
        exact hend.out j h1
     have hAt:=Hok.out hks hle
     clear eb2
     go_upto_region 15 with
      (first
        |(go_at_call 48;(with_reducible refine(bits_n (yT.num (by omega)) Eb2.out).mono ?_);rintro e w21 ⟨rfl,hb21⟩;have B21:=B1.trans (hb21.mono B1.size);have x21:=xT.below hb21;have y21:=yT.below hb21;have z21:=xS.below hb21;have v21:=yS.below hb21;have P21:=PT.below hb21;have Q21:=PS.below hb21;have T21:=T1.below hb21;clear xT yT xS yS PT PS T1;obtain⟨cP0_21,cP1_21,fP0_21,fP1_21,sP_21⟩:=P21.open2;obtain⟨cQ0_21,cQ1_21,fQ0_21,fQ1_21,sQ_21⟩:=Q21.open2)
        |(go_at_call 107;(with_reducible refine(prest_n (p:=S') (q:=T') z21 (v21.num (by omega)) (y21.num (by omega)) (by omega)).mono ?_);rintro e w22 ⟨pa,pn,pk,pb,pm,pj,rfl,f22,g22,hb22⟩;have B22:=B21.trans (hb22.mono B21.size);have x22:=x21.below hb22;have y22:=y21.below hb22;have z22:=z21.below hb22;have v22:=v21.below hb22;have P22:=P21.below hb22;have Q22:=Q21.below hb22;have T22:=T21.below hb22;clear x21 y21 z21 v21 P21 Q21 T21;clear cP0_21 cP1_21 fP0_21 fP1_21 sP_21;obtain⟨cP0_22,cP1_22,fP0_22,fP1_22,sP_22⟩:=P22.open2;clear cQ0_21 cQ1_21 fQ0_21 fQ1_21 sQ_21;obtain⟨cQ0_22,cQ1_22,fQ0_22,fQ1_22,sQ_22⟩:=Q22.open2)
        |fail)
     have cells:=Q22.open2
     obtain⟨c0,c1,g0,g1,-⟩:=cells
     go_quiet (fail)
     go_wp2
     go_ret3
     exact⟨_,_,_,_,rfl,f22.set2 Q22 pcells _ _,g22.set2 Q22 pcells _ _,hAt,below_drewN (below_set (below_set B22 (by omega) _) (by omega) _) _⟩
    ·have hb2:2≤b2:=by
      rcases Nat.lt_or_ge b2 2 with h|h
      ·exfalso
       have h1:=bitN_lt T'.hi
       rw[eb2]at h1
       have h2:2^b2≤2^1:=Nat.pow_le_pow_right (by omega) (by omega)
       omega
      ·exact h
     have db:decide ((b2:Int)≤1)=false:=decide_eq_false (by omega)
     have hk1:=He.out (by omega)
     have wn:IntKind.u64.wrap ((nn:Int)+1)=(nn:Int)+1:=by rw[IntKind.wrap_u64];omega
     clear eb2
     unfold L64
     go_wp2_with
      (first
        |(go_at_call 48;(with_reducible refine(bits_n (yT.num (by omega)) Eb2.out).mono ?_);rintro e w21 ⟨rfl,hb21⟩;have B21:=B1.trans (hb21.mono B1.size);have I21:=Ix.below hb21;have J21:=Is.below hb21;have K21:=It.below hb21;have P21:=PT.below hb21;have T21:=T1.below hb21;have y21:=yT.below hb21;clear Ix Is It PT T1 yT;obtain⟨cP0_21,cP1_21,fP0_21,fP1_21,sP_21⟩:=P21.open2)
        |fail)
     go_roundw
     case rel=>
      refine⟨k+1,?_,by omega,.inr (by rw[←hT2.out];omega),I21,(show InP _ (bx+1) (exS ⟨A,B⟩ (2^s) (k+1))by rw[←hS2.out];exact J21),(show InP _ (bx+1+1) (exP ⟨A,B⟩ (2^s) (k+1))by rw[←hT2.out];exact K21),T21,B21⟩
      congr 1
      omega
     case measure=>simp[intOf];omega
end
end Go.Proofs.YtffaefjkpipjnaaGreatDoor
namespace Go.Proofs.YtffaefjkpipjnaaGreatDoor
set_option maxRecDepth 100000
open Go.RowKit Go.ChangeShapes Go.WideShapes
set_option linter.unusedVariables false
section
variable {w:World}{v u:Value}{A B:Nat}
end
end Go.Proofs.YtffaefjkpipjnaaGreatDoor
namespace Go.Proofs.YtffaefjkpipjnaaGreatDoor
set_option maxRecDepth 100000
open Go.RowKit
set_option linter.unusedVariables false
theorem _root_.Go.Proofs.YtffaefjkpipjnaaGreatDoor.ExOk.size {A B s L H:Nat}(h:ExOk A B s L H) (s2:s≤9000):bitN L≤20000∧bitN H≤20000:=by
 have h0:=Nat.two_pow_pos s
 have h1:=h.short
 have h2:=h.le
 have h3:(s+4)*2^s≤9004*2^s:=Nat.mul_le_mul_right _ (by omega)
 have hb:∀x,x≤20000*2^s→bitN x≤20000:=fun x hx=>Nat.le_trans (bitN_le.2 (show x<2^(s+15)by rw[Nat.pow_add];omega)) (by omega)
 exact⟨hb _ (by omega),hb _ (by omega)⟩
end Go.Proofs.YtffaefjkpipjnaaGreatDoor
namespace Go.Proofs.YtffaefjkpipjnaaGreatDoor
set_option maxRecDepth 100000
open Go.RowKit Go.ChangeShapes Go.WideShapes
set_option linter.unusedVariables false
set_option maxHeartbeats 2000000 in
theorem Within_n {w:World}{v u:Value}{neg n1 n2:Bool}{L H m1 m2:Nat}{s e1 e2:Int}(h:Num w v L) (k:Num w u H) (hT:Tab w) (hLH:L≤H) (sH:bitN H≤300000) (s1: -1000000≤s) (s2:s≤1000000)
 (q1:bareD ⟨neg,if neg then H else L,-s⟩=⟨n1,m1,e1⟩) (q2:bareD ⟨neg,if neg then L else H,-s⟩=⟨n2,m2,e2⟩):
 Calls Tryz.prog 62 #[v,u,.int .i64 s,.bool neg] w fun e w'=>∃x y,e= .returned (.agg #[.bool n1,x,.int .i64 e1,.bool n2,y,.int .i64 e2])∧RdN w' x (digs BB m1)∧RdN w' y (digs BB m2)∧Below w.heap.size w w':=by
 have sL:bitN L≤300000:=Nat.le_trans (bitN_mono hLH) sH
 have wn:IntKind.i64.wrap (-s)= -s:=by rw[IntKind.wrap_i64];omega
 cases neg
 ·simp only[Bool.false_eq_true,if_false]at q1 q2
  obtain⟨f1,r1,r2⟩:=bareD_fits q1 (by omega) (by omega) (by omega)
  obtain⟨f2,r3,r4⟩:=bareD_fits q2 (by omega) (by omega) (by omega)
  have b1:=bareD_bits q1
  have b2:=bareD_bits q2
  have hc:cmpD ⟨n1,m1,e1⟩ ⟨n2,m2,e2⟩≤0:=by
   apply cmpD_le
   rw[←q1,←q2,qv_bare (by show-2147483648≤-s;omega) (by show-s≤2147483648;omega),qv_bare (by show-2147483648≤-s;omega) (by show-s≤2147483648;omega)]
   exact Rat.mul_le_mul_of_nonneg_right (Rat.natCast_le_natCast.2 hLH) (Rat.le_of_lt (pw_pos _))
  obtain⟨c,hcc⟩:∃c,cmpD ⟨n1,m1,e1⟩ ⟨n2,m2,e2⟩=c:=⟨_,rfl⟩
  have dc:decide (0<c)=false:=decide_eq_false (by omega)
  have HA:=Lib.hid (fun w v (h:Num w v L) (hT:Tab w)=>Make_ok h hT (by omega) (by omega) q1 f1)
  have HB:=Lib.hid (fun w v (h:Num w v H) (hT:Tab w)=>Make_ok h hT (by omega) (by omega) q2 f2)
  have HC:=Lib.hid (fun w v u (h:RdN w v (digs BB m1)) (k:RdN w u (digs BB m2)) (hT:Tab w)=>Cmp_n (h.num (by omega)) (k.num (by omega)) hT (by omega) (by omega) (by omega) (by omega) (bareD_again q1 (by omega) (by omega)) (bareD_again q2 (by omega) (by omega)) (by omega) (by omega) hcc)
  clear q1 q2 hc hcc f1 f2 r1 r2 r3 r4
  go_enter Tryz.func62,Tryz.ntmps62
  go_wp2_with
   (first
     |(go_at_call 47;(with_reducible refine(HA.out _ _ (h.below (below_alloc _ _)) (hT.below (below_alloc _ _))).mono ?_);rintro e w1 ⟨vx1,rfl,x1,hb1⟩;have B1:=(below_alloc _ _).trans (hb1.mono (below_alloc _ _).size);have m1:=((h.below (below_alloc _ _))).below hb1;have g1:=((k.below (below_alloc _ _))).below hb1;have T1:=((hT.below (below_alloc _ _))).below hb1;have R1:=((blk_new)).below hb1;obtain⟨cR0_1,cR1_1,cR2_1,cR3_1,cR4_1,cR5_1,fR0_1,fR1_1,fR2_1,fR3_1,fR4_1,fR5_1,sR_1⟩:=R1.open6;obtain⟨ax1,kx1,rfl,-⟩:=x1.view;try simp only[List.length_nil]at x1)
     |(go_at_call 47;(with_reducible refine(HB.out _ _ (g1.below (below_alloc _ _)) (T1.below (below_alloc _ _))).mono ?_);rintro e w2 ⟨vy2,rfl,y2,hb2⟩;have hb2':=(below_a hb2);have B2:=B1.trans (hb2'.mono B1.size);have m2:=m1.below hb2';have g2:=g1.below hb2';have T2:=T1.below hb2';have R2:=R1.below hb2';have x2:=x1.below hb2';clear m1 g1 T1 R1 x1;have P2:=blk_new.below hb2;clear cR0_1 cR1_1 cR2_1 cR3_1 cR4_1 cR5_1 fR0_1 fR1_1 fR2_1 fR3_1 fR4_1 fR5_1 sR_1;obtain⟨cR0_2,cR1_2,cR2_2,cR3_2,cR4_2,cR5_2,fR0_2,fR1_2,fR2_2,fR3_2,fR4_2,fR5_2,sR_2⟩:=R2.open6;obtain⟨cP0_2,cP1_2,cP2_2,fP0_2,fP1_2,fP2_2,sP_2⟩:=P2.open3;obtain⟨ay2,ky2,rfl,-⟩:=y2.view;try simp only[List.length_nil]at y2)
     |(go_at_call 50;(with_reducible refine(HC.out _ _ _ (x2.below (below_alloc _ _)) (y2.below (below_alloc _ _)) (T2.below (below_alloc _ _))).mono ?_);rintro e w3 ⟨rfl,hb3⟩;have hb3':=(below_a hb3);have B3:=B2.trans (hb3'.mono B2.size);have m3:=m2.below hb3';have g3:=g2.below hb3';have T3:=T2.below hb3';have R3:=R2.below hb3';have x3:=x2.below hb3';have P3:=P2.below hb3';have y3:=y2.below hb3';clear m2 g2 T2 R2 x2 P2 y2;have Q3:=blk_new.below hb3;clear cR0_2 cR1_2 cR2_2 cR3_2 cR4_2 cR5_2 fR0_2 fR1_2 fR2_2 fR3_2 fR4_2 fR5_2 sR_2;obtain⟨cR0_3,cR1_3,cR2_3,cR3_3,cR4_3,cR5_3,fR0_3,fR1_3,fR2_3,fR3_3,fR4_3,fR5_3,sR_3⟩:=R3.open6;clear cP0_2 cP1_2 cP2_2 fP0_2 fP1_2 fP2_2 sP_2;obtain⟨cP0_3,cP1_3,cP2_3,fP0_3,fP1_3,fP2_3,sP_3⟩:=P3.open3;obtain⟨cQ0_3,cQ1_3,cQ2_3,fQ0_3,fQ1_3,fQ2_3,sQ_3⟩:=Q3.open3)
     |fail)
  obtain⟨z0,z1,z2,z3,z4,z5,-⟩:=(R3.set6 (.bool n1) (.slice ax1 (digs BB m1).length kx1) (.int .i64 e1) (.bool n2) (.slice ay2 (digs BB m2).length ky2) (.int .i64 e2)).open6
  refine bodyPost_ret (v:= .agg #[.bool n1,.slice ax1 (digs BB m1).length kx1,.int .i64 e1,.bool n2,.slice ay2 (digs BB m2).length ky2,.int .i64 e2]) (by simp[results,Tryz.results62,go_sem,z0,z1,z2,z3,z4,z5]) rfl ⟨_,_,rfl,x3.set6 R3 dcells6 _ _ _ _ _ _,y3.set6 R3 dcells6 _ _ _ _ _ _,below_set6 B3 (by omega) _ _ _ _ _ _⟩
 ·simp only[if_true]at q1 q2
  obtain⟨f1,r1,r2⟩:=bareD_fits q1 (by omega) (by omega) (by omega)
  obtain⟨f2,r3,r4⟩:=bareD_fits q2 (by omega) (by omega) (by omega)
  have b1:=bareD_bits q1
  have b2:=bareD_bits q2
  by_cases hlt:L<H
  ·have hc:cmpD ⟨n2,m2,e2⟩ ⟨n1,m1,e1⟩=1:=by
    apply cmpD_gt
    rw[←q1,←q2,qv_bare (by show-2147483648≤-s;omega) (by show-s≤2147483648;omega),qv_bare (by show-2147483648≤-s;omega) (by show-s≤2147483648;omega),qv_neg,qv_neg]
    have:=Rat.mul_lt_mul_of_pos_right (Rat.natCast_lt_natCast.2 hlt) (pw_pos (-s))
    generalize (L:Rat)*pw (-s)=a at*
    generalize (H:Rat)*pw (-s)=b at*
    grind
   have HA:=Lib.hid (fun w v (h:Num w v L) (hT:Tab w)=>Make_ok h hT (by omega) (by omega) q2 f2)
   have HB:=Lib.hid (fun w v (h:Num w v H) (hT:Tab w)=>Make_ok h hT (by omega) (by omega) q1 f1)
   have HC:=Lib.hid (fun w v u (h:RdN w v (digs BB m2)) (k:RdN w u (digs BB m1)) (hT:Tab w)=>Cmp_n (h.num (by omega)) (k.num (by omega)) hT (by omega) (by omega) (by omega) (by omega) (bareD_again q2 (by omega) (by omega)) (bareD_again q1 (by omega) (by omega)) (by omega) (by omega) hc)
   clear q1 q2 hc f1 f2 r1 r2 r3 r4
   go_enter Tryz.func62,Tryz.ntmps62
   go_upto_region 5 with
    (first
      |(go_at_call 47;(with_reducible refine(HA.out _ _ (h.below (below_alloc _ _)) (hT.below (below_alloc _ _))).mono ?_);rintro e w1 ⟨vx1,rfl,x1,hb1⟩;have B1:=(below_alloc _ _).trans (hb1.mono (below_alloc _ _).size);have m1:=((h.below (below_alloc _ _))).below hb1;have g1:=((k.below (below_alloc _ _))).below hb1;have T1:=((hT.below (below_alloc _ _))).below hb1;have R1:=((blk_new)).below hb1;obtain⟨cR0_1,cR1_1,cR2_1,cR3_1,cR4_1,cR5_1,fR0_1,fR1_1,fR2_1,fR3_1,fR4_1,fR5_1,sR_1⟩:=R1.open6;obtain⟨ax1,kx1,rfl,-⟩:=x1.view;(try simp only[List.length_nil]at x1);have hl1:=Lib.hid R1.1)
      |(go_at_call 47;(with_reducible refine(HB.out _ _ (g1.below (below_alloc _ _)) (T1.below (below_alloc _ _))).mono ?_);rintro e w2 ⟨vy2,rfl,y2,hb2⟩;have hb2':=(below_a hb2);have B2:=B1.trans (hb2'.mono B1.size);have m2:=m1.below hb2';have g2:=g1.below hb2';have T2:=T1.below hb2';have R2:=R1.below hb2';have x2:=x1.below hb2';clear m1 g1 T1 R1 x1;have P2:=blk_new.below hb2;clear cR0_1 cR1_1 cR2_1 cR3_1 cR4_1 cR5_1 fR0_1 fR1_1 fR2_1 fR3_1 fR4_1 fR5_1 sR_1;obtain⟨cR0_2,cR1_2,cR2_2,cR3_2,cR4_2,cR5_2,fR0_2,fR1_2,fR2_2,fR3_2,fR4_2,fR5_2,sR_2⟩:=R2.open6;obtain⟨cP0_2,cP1_2,cP2_2,fP0_2,fP1_2,fP2_2,sP_2⟩:=P2.open3;obtain⟨ay2,ky2,rfl,-⟩:=y2.view;(try simp only[List.length_nil]at y2);have hl2:=Lib.hid P2.1;have ne1:=Lib.hid (Nat.ne_of_lt P2.1);have ne2:=Lib.hid (Nat.ne_of_gt P2.1))
      |(go_at_call 50;(with_reducible refine(HC.out _ _ _ (x2.below (below_alloc _ _)) (y2.below (below_alloc _ _)) (T2.below (below_alloc _ _))).mono ?_);rintro e w3 ⟨rfl,hb3⟩;have hb3':=(below_a hb3);have B3:=B2.trans (hb3'.mono B2.size);have m3:=m2.below hb3';have g3:=g2.below hb3';have T3:=T2.below hb3';have R3:=R2.below hb3';have x3:=x2.below hb3';have P3:=P2.below hb3';have y3:=y2.below hb3';clear m2 g2 T2 R2 x2 P2 y2;have Q3:=blk_new.below hb3;clear cR0_2 cR1_2 cR2_2 cR3_2 cR4_2 cR5_2 fR0_2 fR1_2 fR2_2 fR3_2 fR4_2 fR5_2 sR_2;obtain⟨cR0_3,cR1_3,cR2_3,cR3_3,cR4_3,cR5_3,fR0_3,fR1_3,fR2_3,fR3_3,fR4_3,fR5_3,sR_3⟩:=R3.open6;clear cP0_2 cP1_2 cP2_2 fP0_2 fP1_2 fP2_2 sP_2;obtain⟨cP0_3,cP1_3,cP2_3,fP0_3,fP1_3,fP2_3,sP_3⟩:=P3.open3;obtain⟨cQ0_3,cQ1_3,cQ2_3,fQ0_3,fQ1_3,fQ2_3,sQ_3⟩:=Q3.open3;obtain⟨kc0,kc1,kc2,kf0,kf1,kf2,-⟩:=(Q3.other3 ne2.out (.bool n1) (.slice ay2 (digs BB m1).length ky2) (.int .i64 e1)).open3)
      |fail)
   have P4:=(P3.set3 (.bool n1) (.slice ay2 (digs BB m1).length ky2) (.int .i64 e1)).other3 ne1.out (.bool n2) (.slice ax1 (digs BB m2).length kx1) (.int .i64 e2)
   have Q4:=(Q3.other3 ne2.out (.bool n1) (.slice ay2 (digs BB m1).length ky2) (.int .i64 e1)).set3 (.bool n2) (.slice ax1 (digs BB m2).length kx1) (.int .i64 e2)
   have l1:w.heap.size<w1.heap.size:=hl1.out
   have l2:w1.heap.size<w2.heap.size:=hl2.out
   have R4:=(R3.other3 (show w.heap.size≠w1.heap.size by omega) (.bool n1) (.slice ay2 (digs BB m1).length ky2) (.int .i64 e1)).other3 (show w.heap.size≠w2.heap.size by omega) (.bool n2) (.slice ax1 (digs BB m2).length kx1) (.int .i64 e2)
   have x4:=(x3.set3 P3 dcells (.bool n1) (.slice ay2 (digs BB m1).length ky2) (.int .i64 e1)).set3 (Q3.other3 ne2.out (.bool n1) (.slice ay2 (digs BB m1).length ky2) (.int .i64 e1)) dcells (.bool n2) (.slice ax1 (digs BB m2).length kx1) (.int .i64 e2)
   have y4:=(y3.set3 P3 dcells (.bool n1) (.slice ay2 (digs BB m1).length ky2) (.int .i64 e1)).set3 (Q3.other3 ne2.out (.bool n1) (.slice ay2 (digs BB m1).length ky2) (.int .i64 e1)) dcells (.bool n2) (.slice ax1 (digs BB m2).length kx1) (.int .i64 e2)
   have B4:=below_set3 (below_set3 B3 (show w.heap.size≤w1.heap.size by omega) (.bool n1) (.slice ay2 (digs BB m1).length ky2) (.int .i64 e1)) (show w.heap.size≤w2.heap.size by omega) (.bool n2) (.slice ax1 (digs BB m2).length kx1) (.int .i64 e2)
   generalize (((((w3.setCell ⟨w1.heap.size,0,none⟩ (.bool n1)).setCell ⟨w1.heap.size,1,none⟩ (.slice ay2 (digs BB m1).length ky2)).setCell ⟨w1.heap.size,2,none⟩ (.int .i64 e1)).setCell ⟨w2.heap.size,0,none⟩ (.bool n2)).setCell ⟨w2.heap.size,1,none⟩ (.slice ax1 (digs BB m2).length kx1)).setCell ⟨w2.heap.size,2,none⟩ (.int .i64 e2)=w4 at*
   obtain⟨cP0,cP1,cP2,fP0,fP1,fP2,-⟩:=P4.open3
   obtain⟨cQ0,cQ1,cQ2,fQ0,fQ1,fQ2,-⟩:=Q4.open3
   obtain⟨cR0,cR1,cR2,cR3,cR4,cR5,fR0,fR1,fR2,fR3,fR4,fR5,-⟩:=R4.open6
   go_wp2_with fail
   obtain⟨z0,z1,z2,z3,z4,z5,-⟩:=(R4.set6 (.bool n1) (.slice ay2 (digs BB m1).length ky2) (.int .i64 e1) (.bool n2) (.slice ax1 (digs BB m2).length kx1) (.int .i64 e2)).open6
   refine bodyPost_ret (v:= .agg #[.bool n1,.slice ay2 (digs BB m1).length ky2,.int .i64 e1,.bool n2,.slice ax1 (digs BB m2).length kx1,.int .i64 e2]) (by simp[results,Tryz.results62,go_sem,z0,z1,z2,z3,z4,z5]) rfl ⟨_,_,rfl,y4.set6 R4 dcells6 _ _ _ _ _ _,x4.set6 R4 dcells6 _ _ _ _ _ _,below_set6 B4 (Nat.le_refl _) _ _ _ _ _ _⟩
  ·obtain rfl:L=H:=by omega
   have hq:=q1.symm.trans q2
   injection hq with g1 g2 g3
   subst g1;subst g2;subst g3
   have hc:cmpD ⟨n1,m1,e1⟩ ⟨n1,m1,e1⟩=0:=by
    have h1:=cmpD_le (a:=⟨n1,m1,e1⟩) (b:=⟨n1,m1,e1⟩) Rat.le_refl
    have h2:=cmpD_ge (a:=⟨n1,m1,e1⟩) (b:=⟨n1,m1,e1⟩) Rat.le_refl
    omega
   have HA:=Lib.hid (fun w v (h:Num w v L) (hT:Tab w)=>Make_ok h hT (by omega) (by omega) q2 f2)
   have HC:=Lib.hid (fun w v u (h:RdN w v (digs BB m1)) (k:RdN w u (digs BB m1)) (hT:Tab w)=>Cmp_n (h.num (by omega)) (k.num (by omega)) hT (by omega) (by omega) (by omega) (by omega) (bareD_again q2 (by omega) (by omega)) (bareD_again q1 (by omega) (by omega)) (by omega) (by omega) hc)
   clear q1 q2 hc f1 f2 r1 r2 r3 r4
   go_enter Tryz.func62,Tryz.ntmps62
   go_wp2_with
    (first
      |(go_at_call 47;(with_reducible refine(HA.out _ _ (h.below (below_alloc _ _)) (hT.below (below_alloc _ _))).mono ?_);rintro e w1 ⟨vx1,rfl,x1,hb1⟩;have B1:=(below_alloc _ _).trans (hb1.mono (below_alloc _ _).size);have m1:=((h.below (below_alloc _ _))).below hb1;have g1:=((k.below (below_alloc _ _))).below hb1;have T1:=((hT.below (below_alloc _ _))).below hb1;have R1:=((blk_new)).below hb1;obtain⟨cR0_1,cR1_1,cR2_1,cR3_1,cR4_1,cR5_1,fR0_1,fR1_1,fR2_1,fR3_1,fR4_1,fR5_1,sR_1⟩:=R1.open6;obtain⟨ax1,kx1,rfl,-⟩:=x1.view;try simp only[List.length_nil]at x1)
      |(go_at_call 47;(with_reducible refine(HA.out _ _ (g1.below (below_alloc _ _)) (T1.below (below_alloc _ _))).mono ?_);rintro e w2 ⟨vy2,rfl,y2,hb2⟩;have hb2':=(below_a hb2);have B2:=B1.trans (hb2'.mono B1.size);have m2:=m1.below hb2';have g2:=g1.below hb2';have T2:=T1.below hb2';have R2:=R1.below hb2';have x2:=x1.below hb2';clear m1 g1 T1 R1 x1;have P2:=blk_new.below hb2;clear cR0_1 cR1_1 cR2_1 cR3_1 cR4_1 cR5_1 fR0_1 fR1_1 fR2_1 fR3_1 fR4_1 fR5_1 sR_1;obtain⟨cR0_2,cR1_2,cR2_2,cR3_2,cR4_2,cR5_2,fR0_2,fR1_2,fR2_2,fR3_2,fR4_2,fR5_2,sR_2⟩:=R2.open6;obtain⟨cP0_2,cP1_2,cP2_2,fP0_2,fP1_2,fP2_2,sP_2⟩:=P2.open3;obtain⟨ay2,ky2,rfl,-⟩:=y2.view;try simp only[List.length_nil]at y2)
      |(go_at_call 50;(with_reducible refine(HC.out _ _ _ (x2.below (below_alloc _ _)) (y2.below (below_alloc _ _)) (T2.below (below_alloc _ _))).mono ?_);rintro e w3 ⟨rfl,hb3⟩;have hb3':=(below_a hb3);have B3:=B2.trans (hb3'.mono B2.size);have m3:=m2.below hb3';have g3:=g2.below hb3';have T3:=T2.below hb3';have R3:=R2.below hb3';have x3:=x2.below hb3';have P3:=P2.below hb3';have y3:=y2.below hb3';clear m2 g2 T2 R2 x2 P2 y2;have Q3:=blk_new.below hb3;clear cR0_2 cR1_2 cR2_2 cR3_2 cR4_2 cR5_2 fR0_2 fR1_2 fR2_2 fR3_2 fR4_2 fR5_2 sR_2;obtain⟨cR0_3,cR1_3,cR2_3,cR3_3,cR4_3,cR5_3,fR0_3,fR1_3,fR2_3,fR3_3,fR4_3,fR5_3,sR_3⟩:=R3.open6;clear cP0_2 cP1_2 cP2_2 fP0_2 fP1_2 fP2_2 sP_2;obtain⟨cP0_3,cP1_3,cP2_3,fP0_3,fP1_3,fP2_3,sP_3⟩:=P3.open3;obtain⟨cQ0_3,cQ1_3,cQ2_3,fQ0_3,fQ1_3,fQ2_3,sQ_3⟩:=Q3.open3)
      |fail)
   obtain⟨z0,z1,z2,z3,z4,z5,-⟩:=(R3.set6 (.bool n1) (.slice ax1 (digs BB m1).length kx1) (.int .i64 e1) (.bool n1) (.slice ay2 (digs BB m1).length ky2) (.int .i64 e1)).open6
   refine bodyPost_ret (v:= .agg #[.bool n1,.slice ax1 (digs BB m1).length kx1,.int .i64 e1,.bool n1,.slice ay2 (digs BB m1).length ky2,.int .i64 e1]) (by simp[results,Tryz.results62,go_sem,z0,z1,z2,z3,z4,z5]) rfl ⟨_,_,rfl,x3.set6 R3 dcells6 _ _ _ _ _ _,y3.set6 R3 dcells6 _ _ _ _ _ _,below_set6 B3 (by omega) _ _ _ _ _ _⟩
end Go.Proofs.YtffaefjkpipjnaaGreatDoor

namespace Go.Proofs.YtffaefjkpipjnaaGreatDoor
set_option linter.unusedVariables false
set_option linter.unusedSimpArgs false
set_option maxRecDepth 100000
open Go.RowKit Go.ChangeShapes Go.WideShapes
theorem qv_minus (n:Bool) (m:Nat) (e:Int):qv ⟨!n,m,e⟩= -qv ⟨n,m,e⟩:=by
 cases n
 ·rfl
 ·show(m:Rat)*pw e= - -((m:Rat)*pw e)
  grind
theorem bareD_zeroM {n n':Bool}{M M':Nat}{E E':Int}(e:bareD ⟨n,M,E⟩=⟨n',M',E'⟩) (h:M'=0):n'=false∧E'=0:=by
 have h0:M=0:=by
  have:=bareD_m_zero ⟨n,M,E⟩
  rw[e]at this
  exact this.1 h
 rw[bareD_zero h0]at e
 injection e with e1 e2 e3
 exact⟨e1.symm,e3.symm⟩
set_option maxHeartbeats 1000000 in
theorem Minus_v {w:World}{v:Value}{neg:Bool}{M:Nat}{E k:Int}(h:Num w v M) (hT:Tab w) (hm:Mid k ⟨neg,M,E⟩) (hk:k≤1000000) (hk0:0≤k):
 Calls Tryz.prog 52 #[.agg #[.bool neg,v,.int .i64 E]] w (fun e w'=>∃n m x v,e= .returned (.agg #[.bool n,v,.int .i64 x])∧(qv ⟨n,m,x⟩= -qv ⟨neg,M,E⟩∧Mid k ⟨n,m,x⟩∧bareD ⟨n,m,x⟩=⟨n,m,x⟩)∧RdN w' v (digs BB m)∧Below w.heap.size w w'):=by
 obtain⟨a,n,c,rfl⟩:=h.slice
 obtain⟨m1,m2,m3,hf,m5⟩:=hm.bare (by omega) hk0
 obtain⟨⟨n',M',E'⟩,e⟩:∃d,bareD ⟨neg,M,E⟩=d:=⟨_,rfl⟩
 rw[e]at m1 hf m5
 have h1:=hm.1;have h2:=hm.2.1
 have h3:=m1.1;have h4:=m1.2.1;have h5:=m1.bits
 dsimp only at h1 h2 h3 h4 h5 hf
 have HB:=Lib.hid (fun w v (h:Num w v M) (hT:Tab w)=>bare_d h hT (by omega) (by omega) e)
 by_cases h0:M'=0
 ·obtain⟨rfl,rfl⟩:=bareD_zeroM e h0
  have z:qv ⟨neg,M,E⟩=0:=by rw[←m5];exact qv_zero h0
  have fin:qv ⟨false,0,0⟩= -qv ⟨neg,M,E⟩:=by rw[z,qv_zero rfl];rfl
  have fin2:Mid k ⟨false,0,0⟩:=by subst h0;exact m1
  subst h0
  have dz:(digs BB 0).length=0:=by rw[digs_zero];rfl
  clear e hf m1 m2 m3 m5 z
  go_enter Tryz.func52,Tryz.ntmps52
  go_wp2_with
   (first
     |(go_at_call 80;(with_reducible refine(HB.out _ _ (h.below below_2) (hT.below below_2)).mono ?_);rintro e w1 ⟨vx1,rfl,x1,hb1⟩;have B1:=below_2.trans (hb1.mono below_2.size);have m1:=((h.below below_2)).below hb1;have T1:=((hT.below below_2)).below hb1;have P1:=((blk_a1)).below hb1;have R1:=((blk_a2)).below hb1;obtain⟨cP0_1,cP1_1,cP2_1,fP0_1,fP1_1,fP2_1,sP_1⟩:=P1.open3;obtain⟨cR0_1,cR1_1,cR2_1,fR0_1,fR1_1,fR2_1,sR_1⟩:=R1.open3;obtain⟨ux1,rfl,x1⟩:=x1;obtain⟨ax1,kx1,rfl,-⟩:=x1.view)
     |fail)
  obtain⟨z0,z1,z2,-⟩:=(Blk.next (o:= .cells #[.bool false,.slice ax1 0 kx1,.int .i64 0] 63 (0,0)) (R1.set3 (.bool false) (.slice none 0 0) (.int .i64 0))).open3
  refine bodyPost_ret (v:= .agg #[.bool false,.slice none 0 0,.int .i64 0]) ?_ rfl ?_
  ·simp[results,Tryz.results52,go_sem,z0,z1,z2]
  ·exact⟨false,0,0,_,rfl,⟨fin,fin2,rfl⟩,RdN.nil0 _,bel_next (below_set3b B1 (by omega) _ _ _)⟩
 ·have o:=bareD_oddM e h0
  have fin:qv ⟨!n',M',E'⟩= -qv ⟨neg,M,E⟩:=by rw[qv_minus,m5]
  have fin2:Mid k ⟨!n',M',E'⟩:=m1
  have fin3:bareD ⟨!n',M',E'⟩=⟨!n',M',E'⟩:=bareD_odd' o (by omega) (by omega)
  have hsn:digs BB M'≠[]:=fun e=>h0 ((digs_nil_iff BB_two _).1 e)
  have hsi:((digs BB M').length:Int)≠0:=by have:=List.length_pos_iff.2 hsn;omega
  have BA:=Lib.hid (fun w v (h:RdN w v (digs BB M')) (hT:Tab w)=>Bare_ok (neg:=!n') (E:=E') (h.num (by omega)) hT (by omega) (by omega) fin3 hf)
  clear e hf m1 m2 m3 m5 o hsn h0
  go_enter Tryz.func52,Tryz.ntmps52
  go_wp2_with
   (first
     |(go_at_call 80;(with_reducible refine(HB.out _ _ (h.below below_2) (hT.below below_2)).mono ?_);rintro e w1 ⟨vx1,rfl,x1,hb1⟩;have B1:=below_2.trans (hb1.mono below_2.size);have m1:=((h.below below_2)).below hb1;have T1:=((hT.below below_2)).below hb1;have P1:=((blk_a1)).below hb1;have R1:=((blk_a2)).below hb1;obtain⟨cP0_1,cP1_1,cP2_1,fP0_1,fP1_1,fP2_1,sP_1⟩:=P1.open3;obtain⟨cR0_1,cR1_1,cR2_1,fR0_1,fR1_1,fR2_1,sR_1⟩:=R1.open3;obtain⟨ux1,rfl,x1⟩:=x1;obtain⟨ax1,kx1,rfl,-⟩:=x1.view)
     |(go_at_call 74;(with_reducible refine(BA.out _ _ (x1.below (below_alloc _ _)) (T1.below (below_alloc _ _))).mono ?_);rintro e w2 ⟨vy2,rfl,y2,hb2⟩;have hb2':=(below_a hb2);have B2:=B1.trans (hb2'.mono B1.size);have m2:=m1.below hb2';have T2:=T1.below hb2';have P2:=P1.below hb2';have R2:=R1.below hb2';have x2:=x1.below hb2';clear m1 T1 P1 R1 x1;have Q2:=blk_new.below hb2;clear cP0_1 cP1_1 cP2_1 fP0_1 fP1_1 fP2_1 sP_1;obtain⟨cP0_2,cP1_2,cP2_2,fP0_2,fP1_2,fP2_2,sP_2⟩:=P2.open3;clear cR0_1 cR1_1 cR2_1 fR0_1 fR1_1 fR2_1 sR_1;obtain⟨cR0_2,cR1_2,cR2_2,fR0_2,fR1_2,fR2_2,sR_2⟩:=R2.open3;obtain⟨cQ0_2,cQ1_2,cQ2_2,fQ0_2,fQ1_2,fQ2_2,sQ_2⟩:=Q2.open3;obtain⟨ay2,ky2,rfl,-⟩:=y2.view;try simp only[List.length_nil]at y2)
     |fail)
  have q:=(Blk.next (o:= .cells #[.bool (!n'),.slice ay2 (digs BB M').length ky2,.int .i64 E'] 63 (0,0)) (R2.set3 (.bool (!n')) (.slice ax1 (digs BB M').length kx1) (.int .i64 E'))).open3
  refine bodyPost_ret (v:= .agg #[.bool (!n'),.slice ax1 (digs BB M').length kx1,.int .i64 E']) ?_ rfl ?_
  ·simp[results,Tryz.results52,go_sem,q.1,q.2.1,q.2.2.1]
  ·exact⟨!n',M',E',_,rfl,⟨fin,fin2,fin3⟩,(x2.set3 R2 dcells _ _ _).below (below_alloc _ _),bel_next (below_set3b B2 (by omega) _ _ _)⟩
def downB (neg:Bool) (dir:Int):Bool:=decide (dir=1)||((decide (dir=3)&&!neg)||(decide (dir=2)&&neg))
theorem ddown_n {w:World}{neg:Bool}{dir:Int}(d0:0≤dir) (d3:dir≤3):Calls Tryz.prog 90 #[.bool neg,.int .i64 dir] w (fun e w'=>e= .returned (.bool (downB neg dir))∧w'=w):=by
 have hd:dir=0∨dir=1∨dir=2∨dir=3:=by omega
 clear d0 d3
 rcases hd with rfl|rfl|rfl|rfl<;>cases neg
 all_goals
  go_enter Tryz.func90,Tryz.ntmps90
  go_wp2
  go_ret
  exact⟨rfl,rfl⟩
theorem Minus_d {w:World}{v:Value}{neg:Bool}{M:Nat}{E:Int}(h:Num w v M) (hT:Tab w) (e:bareD ⟨neg,M,E⟩=⟨neg,M,E⟩) (hf:fitsE E=true) (h0:M≠0) (sM:bitN M≤400000):
 Calls Tryz.prog 52 #[.agg #[.bool neg,v,.int .i64 E]] w (fun e w'=>∃v,e= .returned (.agg #[.bool (!neg),v,.int .i64 E])∧RdN w' v (digs BB M)∧Below w.heap.size w w'):=by
 obtain⟨a,n,c,rfl⟩:=h.slice
 have rF: -1073741824≤E∧E≤1073741824:=by unfold fitsE at hf;simp at hf;exact hf
 obtain⟨rF1,rF2⟩:=rF
 have HB:=Lib.hid (fun w v (h:Num w v M) (hT:Tab w)=>bare_d h hT (by omega) (by omega) e)
 have o:=bareD_oddM e h0
 have fin3:bareD ⟨!neg,M,E⟩=⟨!neg,M,E⟩:=bareD_odd' o (by omega) (by omega)
 have hsn:digs BB M≠[]:=fun e=>h0 ((digs_nil_iff BB_two _).1 e)
 have hsi:((digs BB M).length:Int)≠0:=by have:=List.length_pos_iff.2 hsn;omega
 have BA:=Lib.hid (fun w v (h:RdN w v (digs BB M)) (hT:Tab w)=>Bare_ok (neg:=!neg) (E:=E) (h.num (by omega)) hT (by omega) (by omega) fin3 hf)
 clear e hf o hsn h0
 go_enter Tryz.func52,Tryz.ntmps52
 go_wp2_with
  (first
    |(go_at_call 80;(with_reducible refine(HB.out _ _ (h.below below_2) (hT.below below_2)).mono ?_);rintro e w1 ⟨vx1,rfl,x1,hb1⟩;have B1:=below_2.trans (hb1.mono below_2.size);have m1:=((h.below below_2)).below hb1;have T1:=((hT.below below_2)).below hb1;have P1:=((blk_a1)).below hb1;have R1:=((blk_a2)).below hb1;obtain⟨cP0_1,cP1_1,cP2_1,fP0_1,fP1_1,fP2_1,sP_1⟩:=P1.open3;obtain⟨cR0_1,cR1_1,cR2_1,fR0_1,fR1_1,fR2_1,sR_1⟩:=R1.open3;obtain⟨ux1,rfl,x1⟩:=x1;obtain⟨ax1,kx1,rfl,-⟩:=x1.view)
    |(go_at_call 74;(with_reducible refine(BA.out _ _ (x1.below (below_alloc _ _)) (T1.below (below_alloc _ _))).mono ?_);rintro e w2 ⟨vy2,rfl,y2,hb2⟩;have hb2':=(below_a hb2);have B2:=B1.trans (hb2'.mono B1.size);have m2:=m1.below hb2';have T2:=T1.below hb2';have P2:=P1.below hb2';have R2:=R1.below hb2';have x2:=x1.below hb2';clear m1 T1 P1 R1 x1;have Q2:=blk_new.below hb2;clear cP0_1 cP1_1 cP2_1 fP0_1 fP1_1 fP2_1 sP_1;obtain⟨cP0_2,cP1_2,cP2_2,fP0_2,fP1_2,fP2_2,sP_2⟩:=P2.open3;clear cR0_1 cR1_1 cR2_1 fR0_1 fR1_1 fR2_1 sR_1;obtain⟨cR0_2,cR1_2,cR2_2,fR0_2,fR1_2,fR2_2,sR_2⟩:=R2.open3;obtain⟨cQ0_2,cQ1_2,cQ2_2,fQ0_2,fQ1_2,fQ2_2,sQ_2⟩:=Q2.open3;obtain⟨ay2,ky2,rfl,-⟩:=y2.view;try simp only[List.length_nil]at y2)
    |fail)
 have q:=(Blk.next (o:= .cells #[.bool (!neg),.slice ay2 (digs BB M).length ky2,.int .i64 E] 63 (0,0)) (R2.set3 (.bool (!neg)) (.slice ax1 (digs BB M).length kx1) (.int .i64 E))).open3
 refine bodyPost_ret (v:= .agg #[.bool (!neg),.slice ax1 (digs BB M).length kx1,.int .i64 E]) ?_ rfl ?_
 ·simp[results,Tryz.results52,go_sem,q.1,q.2.1,q.2.2.1]
 ·exact⟨_,rfl,(x2.set3 R2 dcells _ _ _).below (below_alloc _ _),bel_next (below_set3b B2 (by omega) _ _ _)⟩
theorem dsigned_n {w:World}{v:Value}{s:Bool}{M:Nat}{E:Int}(h:RdN w v (digs BB M)) (hT:Tab w) (e:bareD ⟨false,M,E⟩=⟨false,M,E⟩) (hf:fitsE E=true) (h0:M≠0) (sM:bitN M≤400000):
 Calls Tryz.prog 89 #[.agg #[.bool false,v,.int .i64 E],.bool s] w (fun e w'=>∃v,e= .returned (.agg #[.bool s,v,.int .i64 E])∧RdN w' v (digs BB M)∧Below w.heap.size w w'):=by
 obtain⟨a,k,rfl,-,-,-,-⟩:=h.view
 have HM:=Lib.hid (fun w v (h:RdN w v (digs BB M)) (hT:Tab w)=>Minus_d (h.num (by omega)) hT e hf h0 (by omega))
 clear e hf h0
 cases s
 ·go_enter Tryz.func89,Tryz.ntmps89
  go_wp2_with fail
  obtain⟨z0,z1,z2,-⟩:=(blk_a2 (w:=w) (T:=63) (o:= .cells #[.bool false,.slice a (digs BB M).length k,.int .i64 E] 63 (0,0)) (c:= #[.bool false,.slice a (digs BB M).length k,.int .i64 E])).open3
  refine bodyPost_ret (v:= .agg #[.bool false,.slice a (digs BB M).length k,.int .i64 E]) (by simp[results,Tryz.results89,go_sem,z0,z1,z2]) rfl ⟨_,rfl,h.below below_2,below_2⟩
 ·go_enter Tryz.func89,Tryz.ntmps89
  go_wp2_with
   (first
     |(go_at_call 52;(with_reducible refine(HM.out _ _ (h.below below_2) (hT.below below_2)).mono ?_);rintro e w1 ⟨vy1,rfl,y1,hb1⟩;have B1:=below_2.trans (hb1.mono below_2.size);have x1:=((h.below below_2)).below hb1;have T1:=((hT.below below_2)).below hb1;have P1:=((blk_a1)).below hb1;have R1:=((blk_a2)).below hb1;obtain⟨cP0_1,cP1_1,cP2_1,fP0_1,fP1_1,fP2_1,sP_1⟩:=P1.open3;obtain⟨cR0_1,cR1_1,cR2_1,fR0_1,fR1_1,fR2_1,sR_1⟩:=R1.open3;obtain⟨ay1,ky1,rfl,-⟩:=y1.view;try simp only[List.length_nil]at y1)
     |fail)
  obtain⟨z0,z1,z2,-⟩:=(R1.set3 (.bool true) (.slice ay1 (digs BB M).length ky1) (.int .i64 E)).open3
  refine bodyPost_ret (v:= .agg #[.bool true,.slice ay1 (digs BB M).length ky1,.int .i64 E]) (by simp[results,Tryz.results89,go_sem,z0,z1,z2]) rfl ⟨_,rfl,y1.set3 R1 dcells _ _ _,below_set3b B1 (by omega) _ _ _⟩
set_option maxHeartbeats 600000 in
theorem dright_n {w:World}{v u:Value}{n1 n2:Bool}{M1 M2:Nat}{E1 E2 c s dir:Int}(h:RdN w v (digs BB M1)) (h':RdN w u (digs BB M2)) (hT:Tab w) (q1:bareD ⟨n1,M1,E1⟩=⟨n1,M1,E1⟩) (q2:bareD ⟨n2,M2,E2⟩=⟨n2,M2,E2⟩) (f1:fitsE E1=true) (f2:fitsE E2=true) (s1:bitN M1≤400000) (s2:bitN M2≤400000)
 (hc:cmpD ⟨n1,M1,E1⟩ ⟨n2,M2,E2⟩=c) (hs:signD ⟨n1,M1,E1⟩=s) (d0:0≤dir) (d3:dir≤3):
 Calls Tryz.prog 87 #[.agg #[.bool n1,v,.int .i64 E1,.bool n2,u,.int .i64 E2],.int .i64 dir] w (fun e w'=>e= .returned (.bool (decide (c≤0)&&decide (0<s)))∧Below w.heap.size w w'):=by
 obtain⟨av,kv,rfl,-,-,-,-⟩:=h.view
 obtain⟨au,ku,rfl,-,-,-,-⟩:=h'.view
 have r1: -1073741824≤E1∧E1≤1073741824:=by unfold fitsE at f1;simp at f1;exact f1
 have r2: -1073741824≤E2∧E2≤1073741824:=by unfold fitsE at f2;simp at f2;exact f2
 obtain⟨r1,r1'⟩:=r1
 obtain⟨r2,r2'⟩:=r2
 have HR:=Lib.hid (fun w v u (h:RdN w v (digs BB M1)) (k:RdN w u (digs BB M2)) (hT:Tab w)=>Right_n (f1:=true) (f2:=true) (c:=c) (neg:=n1) (neg2:=n2) (E:=E1) (E2:=E2) (h.num (by omega)) (k.num (by omega)) hT (by omega) (by omega) (by omega) (by omega) (by omega) (by omega) (by rw[q1];exact f1) (by rw[q2];exact f2) (by rw[q1,q2];exact hc))
 have HS:=Lib.hid (fun w v (h:RdN w v (digs BB M1))=>Sign_n (h.num (by omega)) hs)
 have e0:decide ((0:Int)≤dir)=true:=decide_eq_true d0
 have e3:decide (dir≤(3:Int))=true:=decide_eq_true d3
 obtain⟨x,hx⟩:∃x,decide (c≤0)=x:=⟨_,rfl⟩
 obtain⟨y,hy⟩:∃y,decide (0<s)=y:=⟨_,rfl⟩
 simp only[Bool.true_and]at HR
 rw[hx]at HR
 rw[hx,hy]
 clear q1 q2 f1 f2 r1 r1' r2 r2' hc hs hx d0 d3
 cases x<;>cases y
 all_goals
  go_enter Tryz.func87,Tryz.ntmps87
  go_wp2_with
   (first
     |(go_at_call 49;(with_reducible refine(HR.out _ _ _ (h.below (below_alloc _ _)) (h'.below (below_alloc _ _)) (hT.below (below_alloc _ _))).mono ?_);rintro e w1 ⟨rfl,hb1⟩;have B1:=(below_alloc _ _).trans (hb1.mono (below_alloc _ _).size);have m1:=((h.below (below_alloc _ _))).below hb1;have g1:=((h'.below (below_alloc _ _))).below hb1;have T1:=((hT.below (below_alloc _ _))).below hb1;have P1:=((blk_new)).below hb1;obtain⟨cP0_1,cP1_1,cP2_1,cP3_1,cP4_1,cP5_1,fP0_1,fP1_1,fP2_1,fP3_1,fP4_1,fP5_1,sP_1⟩:=P1.open6)
     |(go_at_call 26;(with_reducible refine(HS.out _ _ m1).mono ?_);rintro e w2 ⟨rfl,hb2⟩;have B2:=B1.trans (hb2.mono B1.size);have m2:=m1.below hb2;have g2:=g1.below hb2;have T2:=T1.below hb2;have P2:=P1.below hb2;clear m1 g1 T1 P1;clear cP0_1 cP1_1 cP2_1 cP3_1 cP4_1 cP5_1 fP0_1 fP1_1 fP2_1 fP3_1 fP4_1 fP5_1 sP_1;obtain⟨cP0_2,cP1_2,cP2_2,cP3_2,cP4_2,cP5_2,fP0_2,fP1_2,fP2_2,fP3_2,fP4_2,fP5_2,sP_2⟩:=P2.open6)
     |fail)
  go_ret
  exact⟨rfl,by assumption⟩
end Go.Proofs.YtffaefjkpipjnaaGreatDoor
