/- dyad.size and Cmp by their contracts. Conditions: the numbers are short; math/bits' table stands in its variable. -/
import Derived.Test.YtffaefjkpipjnaaGreatDoorPkC12
import Derived.Deep.RegionHeld3
import Derived.Deep.CutBlock
import Derived.Test.YtffaefjkpipjnaaGreatDoorPkC01
namespace Go.Proofs.YtffaefjkpipjnaaGreatDoor
set_option maxRecDepth 100000
open Go.RowKit Go.ChangeShapes Go.WideShapes
theorem widened_i {w:World}{v:Value}{M:Nat}{n:Int}(h:RdN w v (digs BB M)) (hs:bitN M+n.toNat≤2000000) (hn:n≤2000000):
 Calls Tryz.prog 112 #[v,.int .i64 n] w (fun e w'=>∃v,e= .returned v∧Num w' v (M*2^n.toNat)∧Below w.heap.size w w'):=by
 by_cases h0:n≤0
 ·rw[show n.toNat=0 by omega,Nat.pow_zero,Nat.mul_one]
  exact widened_zero (h.num (by omega)) h0
 ·obtain⟨m,rfl⟩:=Int.eq_ofNat_of_zero_le (show 0≤n by omega)
  rw[Int.toNat_natCast]at hs⊢
  exact widened_n h (by omega) hs
theorem compare_I {w:World}(x y:Int):Calls Tryz.prog 78 #[.int .i64 x,.int .i64 y] w fun e w'=>e= .returned (.int .i64 (cmpI x y))∧w'=w:=by
 have h:=Tryz.cmp_Compare_int x y w
 unfold Lib.compareInt at h
 unfold cmpI
 exact h
theorem bareD_range {neg n':Bool}{M M':Nat}{E E':Int}(h0:M≠0) (sM:bitN M≤2560000) (e:bareD ⟨neg,M,E⟩=⟨n',M',E'⟩): -2147483648≤E'∧E'≤2147483648+2560000:=by
 rw[bareD_pos h0]at e
 injection e with e1 e2 e3
 have h3:=cutE_range E
 have h4:=low2_lt h0
 simp only at e3
 omega
theorem bareD_nz {neg n':Bool}{M M':Nat}{E E':Int}(h0:M≠0) (e:bareD ⟨neg,M,E⟩=⟨n',M',E'⟩):M'≠0:=by
 have:=bareD_m_zero ⟨neg,M,E⟩
 rw[e]at this
 exact fun h=>h0 (this.1 h)
theorem below_set3b {B:Nat}{w w':World}(h:Below B w w') {b:Nat}(hb:B≤b) (x y z:Value):Below B w (((w'.setCell ⟨b,0,none⟩ x).setCell ⟨b,1,none⟩ y).setCell ⟨b,2,none⟩ z):=
 ((h.setCell (p:=⟨b,0,none⟩) hb x).setCell (p:=⟨b,1,none⟩) hb y).setCell (p:=⟨b,2,none⟩) hb z
set_option maxHeartbeats 1000000 in
theorem size_n {w:World}{v u:Value}{neg n' neg2 n2':Bool}{M M' M2 M2':Nat}{E E' E2 E2' c:Int}(h:Num w v M) (h':Num w u M2) (hT:Tab w) (h1: -9223372036854775808≤E) (h2:E≤9223372036854775807) (h3: -9223372036854775808≤E2) (h4:E2≤9223372036854775807)
 (e:bareD ⟨neg,M,E⟩=⟨n',M',E'⟩) (e2:bareD ⟨neg2,M2,E2⟩=⟨n2',M2',E2'⟩) (h0:M≠0) (h0':M2≠0) (sM:bitN M≤400000) (sM2:bitN M2≤400000) (hc:cmpM ⟨n',M',E'⟩ ⟨n2',M2',E2'⟩=c):
 Calls Tryz.prog 79 #[.agg #[.bool neg,v,.int .i64 E],.agg #[.bool neg2,u,.int .i64 E2]] w (fun e w'=>e= .returned (.int .i64 c)∧Below w.heap.size w w'):=by
 obtain⟨a,n,k,rfl⟩:=h.slice
 obtain⟨a2,m2,k2,rfl⟩:=h'.slice
 have sM':bitN M'≤400000:=by
  have:=bareD_m_le ⟨neg,M,E⟩
  rw[e]at this
  exact Nat.le_trans (bitN_mono this) sM
 have sM2':bitN M2'≤400000:=by
  have:=bareD_m_le ⟨neg2,M2,E2⟩
  rw[e2]at this
  exact Nat.le_trans (bitN_mono this) sM2
 have rE:=bareD_range h0 (show bitN M≤2560000 by omega) e
 have rE2:=bareD_range h0' (show bitN M2≤2560000 by omega) e2
 have h0:=bareD_nz h0 e
 have h0':=bareD_nz h0' e2
 have sM':bitN M'≤2560000:=by omega
 have sM2':bitN M2'≤2560000:=by omega
 obtain⟨b,hb⟩:∃b,bitN M'=b:=⟨_,rfl⟩
 obtain⟨b2,hb2⟩:∃b,bitN M2'=b:=⟨_,rfl⟩
 have eb:=Lib.hid hb;have eb2:=Lib.hid hb2
 obtain⟨X,hX⟩:∃X:Int,(b:Int)+E'=X:=⟨_,rfl⟩
 obtain⟨Y,hY⟩:∃Y:Int,(b2:Int)+E2'=Y:=⟨_,rfl⟩
 have hwX:IntKind.i64.wrap ((b:Int)+E')=X:=by rw[IntKind.wrap_i64];omega
 have hwY:IntKind.i64.wrap ((b2:Int)+E2')=Y:=by rw[IntKind.wrap_i64];omega
 have hwX2:IntKind.i64.wrap X=X:=by rw[IntKind.wrap_i64];omega
 have hwY2:IntKind.i64.wrap Y=Y:=by rw[IntKind.wrap_i64];omega
 have e:=Lib.hid e;have e2:=Lib.hid e2
 go_enter Tryz.func79,Tryz.ntmps79
 go_upto_region 1 with fail
 have P0:Blk _ w.heap.size #[.bool neg,.slice a n k,.int .i64 E]:=blk_a1 (w:=w) (T:=63) (o:= .cells #[.bool neg2,.slice a2 m2 k2,.int .i64 E2] 63)
 have Q0:Blk ((w.alloc (.cells #[.bool neg,.slice a n k,.int .i64 E] 63)).alloc (.cells #[.bool neg2,.slice a2 m2 k2,.int .i64 E2] 63)) _ _:=blk_a2
 have B0:Below w.heap.size w ((w.alloc (.cells #[.bool neg,.slice a n k,.int .i64 E] 63)).alloc (.cells #[.bool neg2,.slice a2 m2 k2,.int .i64 E2] 63)):=below_2
 generalize (w.alloc (.cells #[.bool neg,.slice a n k,.int .i64 E] 63)).alloc (.cells #[.bool neg2,.slice a2 m2 k2,.int .i64 E2] 63)=w0 at*
 generalize hb0:w.heap.size=b0 at*
 go_cut [4] (fun x wx=>x= .int .i64 0∧∃ad kd ag kg,Blk wx b0 #[.bool n',.slice ad (digs BB M').length kd,.int .i64 E']∧Blk wx (b0+1) #[.bool n2',.slice ag (digs BB M2').length kg,.int .i64 E2']∧RdN wx (.slice ad (digs BB M').length kd) (digs BB M')∧RdN wx (.slice ag (digs BB M2').length kg) (digs BB M2')∧Below b0 w wx)
 case first=>
  have hm:Num w0.drew _ M:=(h.below (hb0▸B0)).below (below_drewN (Below.refl _ _) 1)
  have hm2:Num w0.drew _ M2:=(h'.below (hb0▸B0)).below (below_drewN (Below.refl _ _) 1)
  have hT0:Tab w0.drew:=(hT.below (hb0▸B0)).below (below_drewN (Below.refl _ _) 1)
  have PD:Blk w0.drew _ _:=P0.below (below_drewN (Below.refl _ _) 1)
  have QD:Blk w0.drew _ _:=Q0.below (below_drewN (Below.refl _ _) 1)
  have BD:Below b0 w w0.drew:=below_drewN B0 1
  obtain⟨cP0_0,cP1_0,cP2_0,fP0_0,fP1_0,fP2_0,sP_0⟩:=PD.open3
  obtain⟨cQ0_0,cQ1_0,cQ2_0,fQ0_0,fQ1_0,fQ2_0,sQ_0⟩:=QD.open3
  go_region_with
   (first
     |(go_at_call 80;(with_reducible refine(bare_d hm hT0 h1 h2 e.out).mono ?_);rintro e w1 ⟨vd1,rfl,d1,hb1⟩;have B1:=hb1;have m1:=hm.below hb1;have m21:=hm2.below hb1;have T1:=hT0.below hb1;have P1:=PD.below hb1;have Q1:=QD.below hb1;clear hm hm2 hT0 PD QD;obtain⟨cP0_1,cP1_1,cP2_1,fP0_1,fP1_1,fP2_1,sP_1⟩:=P1.open3;obtain⟨cQ0_1,cQ1_1,cQ2_1,fQ0_1,fQ1_1,fQ2_1,sQ_1⟩:=Q1.open3;obtain⟨ud1,rfl,d1⟩:=d1;obtain⟨ad1,kd1,rfl,-⟩:=d1.view)
     |(go_at_call 80;(with_reducible refine(bare_d m21 T1 h3 h4 e2.out).mono ?_);rintro e w2 ⟨vg2,rfl,g2,hb2⟩;have B2:=B1.trans (hb2.mono B1.size);have m2:=m1.below hb2;have m22:=m21.below hb2;have T2:=T1.below hb2;have P2:=P1.below hb2;have Q2:=Q1.below hb2;have d2:=d1.below hb2;clear m1 m21 T1 P1 Q1 d1;clear cP0_1 cP1_1 cP2_1 fP0_1 fP1_1 fP2_1 sP_1;obtain⟨cP0_2,cP1_2,cP2_2,fP0_2,fP1_2,fP2_2,sP_2⟩:=P2.open3;clear cQ0_1 cQ1_1 cQ2_1 fQ0_1 fQ1_1 fQ2_1 sQ_1;obtain⟨cQ0_2,cQ1_2,cQ2_2,fQ0_2,fQ1_2,fQ2_2,sQ_2⟩:=Q2.open3;obtain⟨ug2,rfl,g2⟩:=g2;obtain⟨ag2,kg2,rfl,-⟩:=g2.view)
     |fail)
  all_goals
   go_wp2_with fail
   go_meet
   have BF:Below b0 w w2:=BD.trans (B2.mono (hb0▸BD.size))
   have Q3:=Q2.other3 (b':=b0) (by omega) (.bool n') (.slice ad1 (digs BB M').length kd1) (.int .i64 E')
   exact⟨rfl,ad1,kd1,ag2,kg2,(P2.set3 _ _ _).other3 (by omega) _ _ _,Q3.set3 _ _ _,(d2.set3 P2 dcells _ _ _).set3 Q3 dcells _ _ _,(g2.set3 P2 dcells _ _ _).set3 Q3 dcells _ _ _,below_set3b (below_set3b BF (Nat.le_refl _) _ _ _) (by omega) _ _ _⟩
 case rest=>
  obtain⟨rfl,ad,kd,ag,kg,P1,Q1,D1,G1,B1⟩:=hcut
  go_upto_region 2 with fail
  go_cut [5,6] (fun x y wx=>x= .int .i64 X∧y= .int .i64 Y∧Blk wx b0 #[.bool n',.slice ad (digs BB M').length kd,.int .i64 E']∧Blk wx (b0+1) #[.bool n2',.slice ag (digs BB M2').length kg,.int .i64 E2']∧RdN wx (.slice ad (digs BB M').length kd) (digs BB M')∧RdN wx (.slice ag (digs BB M2').length kg) (digs BB M2')∧Below b0 w wx)
  case first=>
   have PD:Blk wc.drew _ _:=P1.below (below_drewN (Below.refl _ _) 1)
   have QD:Blk wc.drew _ _:=Q1.below (below_drewN (Below.refl _ _) 1)
   have DD':RdN wc.drew _ _:=D1.below (below_drewN (Below.refl _ _) 1)
   have GD:RdN wc.drew _ _:=G1.below (below_drewN (Below.refl _ _) 1)
   have BD:Below b0 w wc.drew:=below_drewN B1 1
   obtain⟨cP0_0,cP1_0,cP2_0,fP0_0,fP1_0,fP2_0,sP_0⟩:=PD.open3
   obtain⟨cQ0_0,cQ1_0,cQ2_0,fQ0_0,fQ1_0,fQ2_0,sQ_0⟩:=QD.open3
   go_region_held3 (fun w'=>w'.cell? ⟨b0,1,none⟩=some (.slice ad (digs BB M').length kd)∧w'.cell? ⟨b0,2,none⟩=some (.int .i64 E')∧w'.cell? ⟨b0+1,1,none⟩=some (.slice ag (digs BB M2').length kg)∧w'.cell? ⟨b0+1,2,none⟩=some (.int .i64 E2')) (first|exact⟨cP1_0,cP2_0,cQ1_0,cQ2_0⟩|exact⟨cP1_1,cP2_1,cQ1_1,cQ2_1⟩|exact⟨cP1_2,cP2_2,cQ1_2,cQ2_2⟩)
   (first
     |(go_at_call 48;(with_reducible refine(bits_n (DD'.num sM') eb.out).mono ?_);rintro e w1 ⟨rfl,hb1⟩;have B1:=hb1;have d1:=(DD').below hb1;have g1:=GD.below hb1;have P1:=PD.below hb1;have Q1:=QD.below hb1;clear GD PD QD;obtain⟨cP0_1,cP1_1,cP2_1,fP0_1,fP1_1,fP2_1,sP_1⟩:=P1.open3;obtain⟨cQ0_1,cQ1_1,cQ2_1,fQ0_1,fQ1_1,fQ2_1,sQ_1⟩:=Q1.open3)
     |(go_at_call 48;(with_reducible refine(bits_n (g1.num sM2') eb2.out).mono ?_);rintro e w2 ⟨rfl,hb2⟩;have B2:=B1.trans (hb2.mono B1.size);have d2:=d1.below hb2;have g2:=g1.below hb2;have P2:=P1.below hb2;have Q2:=Q1.below hb2;clear d1 g1 P1 Q1;clear cP0_1 cP1_1 cP2_1 fP0_1 fP1_1 fP2_1 sP_1;obtain⟨cP0_2,cP1_2,cP2_2,fP0_2,fP1_2,fP2_2,sP_2⟩:=P2.open3;clear cQ0_1 cQ1_1 cQ2_1 fQ0_1 fQ1_1 fQ2_1 sQ_1;obtain⟨cQ0_2,cQ1_2,cQ2_2,fQ0_2,fQ1_2,fQ2_2,sQ_2⟩:=Q2.open3)
     |fail)
   all_goals
    go_wp2_with fail
    go_meet
    exact⟨rfl,rfl,P2,Q2,d2,g2,BD.trans (B2.mono (hb0▸BD.size))⟩
  case rest=>
   obtain⟨rfl,rfl,P1,Q1,D1,G1,B1⟩:=hcut
   have sC1:bitN (M'*2^(b2-b))≤2560000:=by rw[bitN_shift h0];omega
   have sC2:bitN (M2'*2^(b-b2))≤2560000:=by rw[bitN_shift h0'];omega
   obtain⟨cP0_0,cP1_0,cP2_0,fP0_0,fP1_0,fP2_0,sP_0⟩:=P1.open3
   obtain⟨cQ0_0,cQ1_0,cQ2_0,fQ0_0,fQ1_0,fQ2_0,sQ_0⟩:=Q1.open3
   by_cases hXY:X=Y
   ·subst hXY
    have hcs:cmpM ⟨n',M',E'⟩ ⟨n2',M2',E2'⟩=cmpN (M'*2^(b2-b)) (M2'*2^(b-b2)):=by
     rw[cmpM_same (by simp only;rw[hb,hb2,hX,hY])]
     simp only[hb,hb2]
    rw[hcs]at hc
    obtain⟨N,hN⟩:∃N:Int,(b:Int)-(b2:Int)=N:=⟨_,rfl⟩
    have hwN:IntKind.i64.wrap ((b:Int)-(b2:Int))=N:=by rw[IntKind.wrap_i64];omega
    have hwN2:IntKind.i64.wrap N=N:=by rw[IntKind.wrap_i64];omega
    have ec:=Lib.hid hc
    clear hcs hc hX hY
    go_upto_region 5 with fail
    go_cut [7] (fun x wx=>x= .int .i64 N∧Blk wx b0 #[.bool n',.slice ad (digs BB M').length kd,.int .i64 E']∧Blk wx (b0+1) #[.bool n2',.slice ag (digs BB M2').length kg,.int .i64 E2']∧RdN wx (.slice ad (digs BB M').length kd) (digs BB M')∧RdN wx (.slice ag (digs BB M2').length kg) (digs BB M2')∧Below b0 w wx)
    case first=>
     have PD:Blk wc.drew _ _:=P1.below (below_drewN (Below.refl _ _) 1)
     have QD:Blk wc.drew _ _:=Q1.below (below_drewN (Below.refl _ _) 1)
     have DD':RdN wc.drew _ _:=D1.below (below_drewN (Below.refl _ _) 1)
     have GD:RdN wc.drew _ _:=G1.below (below_drewN (Below.refl _ _) 1)
     have BD:Below b0 w wc.drew:=below_drewN B1 1
     obtain⟨cP0_0,cP1_0,cP2_0,fP0_0,fP1_0,fP2_0,sP_0⟩:=PD.open3
     obtain⟨cQ0_0,cQ1_0,cQ2_0,fQ0_0,fQ1_0,fQ2_0,sQ_0⟩:=QD.open3
     go_region_held3 (fun w'=>w'.cell? ⟨b0,1,none⟩=some (.slice ad (digs BB M').length kd)∧w'.cell? ⟨b0+1,1,none⟩=some (.slice ag (digs BB M2').length kg)) (first|exact⟨cP1_0,cQ1_0⟩|exact⟨cP1_1,cQ1_1⟩|exact⟨cP1_2,cQ1_2⟩)
     (first
       |(go_at_call 48;(with_reducible refine(bits_n (DD'.num sM') eb.out).mono ?_);rintro e w1 ⟨rfl,hb1⟩;have B1:=hb1;have d1:=(DD').below hb1;have g1:=GD.below hb1;have P1:=PD.below hb1;have Q1:=QD.below hb1;clear GD PD QD;obtain⟨cP0_1,cP1_1,cP2_1,fP0_1,fP1_1,fP2_1,sP_1⟩:=P1.open3;obtain⟨cQ0_1,cQ1_1,cQ2_1,fQ0_1,fQ1_1,fQ2_1,sQ_1⟩:=Q1.open3)
       |(go_at_call 48;(with_reducible refine(bits_n (g1.num sM2') eb2.out).mono ?_);rintro e w2 ⟨rfl,hb2⟩;have B2:=B1.trans (hb2.mono B1.size);have d2:=d1.below hb2;have g2:=g1.below hb2;have P2:=P1.below hb2;have Q2:=Q1.below hb2;clear d1 g1 P1 Q1;clear cP0_1 cP1_1 cP2_1 fP0_1 fP1_1 fP2_1 sP_1;obtain⟨cP0_2,cP1_2,cP2_2,fP0_2,fP1_2,fP2_2,sP_2⟩:=P2.open3;clear cQ0_1 cQ1_1 cQ2_1 fQ0_1 fQ1_1 fQ2_1 sQ_1;obtain⟨cQ0_2,cQ1_2,cQ2_2,fQ0_2,fQ1_2,fQ2_2,sQ_2⟩:=Q2.open3)
       |fail)
     all_goals
      go_wp2_with fail
      go_meet
      exact⟨rfl,P2,Q2,d2,g2,BD.trans (B2.mono (hb0▸BD.size))⟩
    case rest=>
     obtain⟨rfl,P1,Q1,D1,G1,B1⟩:=hcut
     have HW1:=Lib.hid (fun w v (h:RdN w v (digs BB M'))=>widened_i (n:= -N) h (show bitN M'+(-N).toNat≤2000000 by omega) (by omega))
     have HW2:=Lib.hid (fun w v (h:RdN w v (digs BB M2'))=>widened_i (n:=N) h (show bitN M2'+N.toNat≤2000000 by omega) (by omega))
     rw[show(-N).toNat=b2-b by omega]at HW1
     rw[show N.toNat=b-b2 by omega]at HW2
     have hwn:IntKind.i64.wrap (-N)= -N:=by rw[IntKind.wrap_i64];omega
     go_upto_region 6 with fail
     have PD:Blk wc.drew _ _:=P1.below (below_drewN (Below.refl _ _) 1)
     have QD:Blk wc.drew _ _:=Q1.below (below_drewN (Below.refl _ _) 1)
     have DD':RdN wc.drew _ _:=D1.below (below_drewN (Below.refl _ _) 1)
     have GD:RdN wc.drew _ _:=G1.below (below_drewN (Below.refl _ _) 1)
     have BD:Below b0 w wc.drew:=below_drewN B1 1
     obtain⟨cP0_0,cP1_0,cP2_0,fP0_0,fP1_0,fP2_0,sP_0⟩:=PD.open3
     obtain⟨cQ0_0,cQ1_0,cQ2_0,fQ0_0,fQ1_0,fQ2_0,sQ_0⟩:=QD.open3
     go_region_held3 (fun w'=>w'.cell? ⟨b0,1,none⟩=some (.slice ad (digs BB M').length kd)∧w'.cell? ⟨b0+1,1,none⟩=some (.slice ag (digs BB M2').length kg)) (first|exact⟨cP1_0,cQ1_0⟩|exact⟨cP1_1,cQ1_1⟩|exact⟨cP1_2,cQ1_2⟩|exact⟨cP1_3,cQ1_3⟩)
     (first
       |(go_at_call 112;(with_reducible refine(HW1.out _ _ DD').mono ?_);rintro e w1 ⟨vx1,rfl,x1,hb1⟩;have B1:=hb1;have d1:=(DD').below hb1;have g1:=GD.below hb1;have P1:=PD.below hb1;have Q1:=QD.below hb1;clear GD PD QD;obtain⟨cP0_1,cP1_1,cP2_1,fP0_1,fP1_1,fP2_1,sP_1⟩:=P1.open3;obtain⟨cQ0_1,cQ1_1,cQ2_1,fQ0_1,fQ1_1,fQ2_1,sQ_1⟩:=Q1.open3)
       |(go_at_call 112;(with_reducible refine(HW2.out _ _ g1).mono ?_);rintro e w2 ⟨vy2,rfl,y2,hb2⟩;have B2:=B1.trans (hb2.mono B1.size);have d2:=d1.below hb2;have g2:=g1.below hb2;have P2:=P1.below hb2;have Q2:=Q1.below hb2;have x2:=x1.below hb2;clear d1 g1 P1 Q1 x1;clear cP0_1 cP1_1 cP2_1 fP0_1 fP1_1 fP2_1 sP_1;obtain⟨cP0_2,cP1_2,cP2_2,fP0_2,fP1_2,fP2_2,sP_2⟩:=P2.open3;clear cQ0_1 cQ1_1 cQ2_1 fQ0_1 fQ1_1 fQ2_1 sQ_1;obtain⟨cQ0_2,cQ1_2,cQ2_2,fQ0_2,fQ1_2,fQ2_2,sQ_2⟩:=Q2.open3)
       |(go_at_call 102;(with_reducible refine(cmp_n x2 y2 ec.out).mono ?_);rintro e w3 ⟨rfl,hb3⟩;have B3:=B2.trans (hb3.mono B2.size);have d3:=d2.below hb3;have g3:=g2.below hb3;have P3:=P2.below hb3;have Q3:=Q2.below hb3;have x3:=x2.below hb3;have y3:=y2.below hb3;clear d2 g2 P2 Q2 x2 y2;clear cP0_2 cP1_2 cP2_2 fP0_2 fP1_2 fP2_2 sP_2;obtain⟨cP0_3,cP1_3,cP2_3,fP0_3,fP1_3,fP2_3,sP_3⟩:=P3.open3;clear cQ0_2 cQ1_2 cQ2_2 fQ0_2 fQ1_2 fQ2_2 sQ_2;obtain⟨cQ0_3,cQ1_3,cQ2_3,fQ0_3,fQ1_3,fQ2_3,sQ_3⟩:=Q3.open3)
       |fail)
     all_goals
      go_wp2_with fail
      go_ret
      exact⟨rfl,hb0▸BD.trans (B3.mono (hb0▸BD.size))⟩
   ·have hct:cmpI X Y=c:=by
     rw[←hc,cmpM_tops h0 h0' (by simp only;rw[hb,hb2,hX,hY];exact hXY)]
     simp only[hb,hb2,hX,hY]
    have HC:=Lib.hid (fun w=>compare_I (w:=w) X Y)
    rw[hct]at HC
    clear hc hct hX hY
    go_wp2_with (go_at_call 78;(with_reducible refine(HC.out _).mono ?_);rintro e w9 ⟨rfl,rfl⟩)
    go_ret
    exact⟨rfl,hb0▸B1⟩
end Go.Proofs.YtffaefjkpipjnaaGreatDoor
namespace Go.Proofs.YtffaefjkpipjnaaGreatDoor
set_option maxRecDepth 100000
open Go.RowKit Go.ChangeShapes Go.WideShapes
theorem signD_bare {neg n':Bool}{M M':Nat}{E E':Int}(e:bareD ⟨neg,M,E⟩=⟨n',M',E'⟩):signD ⟨neg,M,E⟩=signD ⟨n',M',E'⟩:=by
 rw[←e]
 by_cases h0:M=0
 ·rw[bareD_zero h0];unfold signD;simp[h0]
 ·have h1:(bareD ⟨neg,M,E⟩).m≠0:=fun h=>h0 ((bareD_m_zero _).1 h)
  have h2:(bareD ⟨neg,M,E⟩).neg=neg:=by rw[bareD_pos h0]
  unfold signD
  rw[if_neg h0,if_neg h1,h2]
theorem cmpN_range (a b:Nat): -1≤cmpN a b∧cmpN a b≤1:=by
 unfold cmpN
 split
 ·exact⟨Int.le_refl _,by omega⟩
 ·split<;>omega
set_option maxHeartbeats 1000000 in
theorem Cmp_n {w:World}{v u:Value}{neg n' neg2 n2':Bool}{M M' M2 M2':Nat}{E E' E2 E2' c:Int}(h:Num w v M) (h':Num w u M2) (hT:Tab w) (h1: -9223372036854775808≤E) (h2:E≤9223372036854775807) (h3: -9223372036854775808≤E2) (h4:E2≤9223372036854775807)
 (e:bareD ⟨neg,M,E⟩=⟨n',M',E'⟩) (e2:bareD ⟨neg2,M2,E2⟩=⟨n2',M2',E2'⟩) (sM:bitN M≤400000) (sM2:bitN M2≤400000) (hc:cmpD ⟨n',M',E'⟩ ⟨n2',M2',E2'⟩=c):
 Calls Tryz.prog 50 #[.agg #[.bool neg,v,.int .i64 E],.agg #[.bool neg2,u,.int .i64 E2]] w (fun e w'=>e= .returned (.int .i64 c)∧Below w.heap.size w w'):=by
 obtain⟨s,hs⟩:∃s,signD ⟨neg,M,E⟩=s:=⟨_,rfl⟩
 obtain⟨s2,hs2⟩:∃s,signD ⟨neg2,M2,E2⟩=s:=⟨_,rfl⟩
 have g1:=signD_bare e;have g2:=signD_bare e2
 rw[hs]at g1;rw[hs2]at g2
 have es:=Lib.hid hs;have es2:=Lib.hid hs2
 unfold cmpD at hc
 rw[←g1,←g2]at hc
 clear g1 g2
 have HC:=Lib.hid (fun w=>compare_I (w:=w) s s2)
 have rs: -1≤s∧s≤1:=by rw[←hs];unfold signD;split;·omega
                       ·split<;>omega
 have z1:M=0→s=0:=fun h=>by rw[←hs];unfold signD;rw[if_pos h]
 have z2:M2=0→s2=0:=fun h=>by rw[←hs2];unfold signD;rw[if_pos h]
 obtain⟨av,nv,kv,rfl⟩:=h.slice
 obtain⟨au,nu,ku,rfl⟩:=h'.slice
 have H:=Lib.hid h;have H':=Lib.hid h';have HT:=Lib.hid hT
 have rs2: -1≤s2∧s2≤1:=by rw[←hs2];unfold signD;split;·omega
                          ·split<;>omega
 clear hs hs2
 go_enter Tryz.func50,Tryz.ntmps50
 go_upto_region 1 with fail
 have P0:Blk ((w.alloc (.cells #[.bool neg,.slice av nv kv,.int .i64 E] 63)).alloc (.cells #[.bool neg2,.slice au nu ku,.int .i64 E2] 63)) w.heap.size #[.bool neg,.slice av nv kv,.int .i64 E]:=blk_a1
 have Q0:Blk ((w.alloc (.cells #[.bool neg,.slice av nv kv,.int .i64 E] 63)).alloc (.cells #[.bool neg2,.slice au nu ku,.int .i64 E2] 63)) (w.heap.size+1) #[.bool neg2,.slice au nu ku,.int .i64 E2]:=blk_a2
 have B0:Below w.heap.size w ((w.alloc (.cells #[.bool neg,.slice av nv kv,.int .i64 E] 63)).alloc (.cells #[.bool neg2,.slice au nu ku,.int .i64 E2] 63)):=below_2
 generalize (w.alloc (.cells #[.bool neg,.slice av nv kv,.int .i64 E] 63)).alloc (.cells #[.bool neg2,.slice au nu ku,.int .i64 E2] 63)=w0 at*
 generalize hb0:w.heap.size=b0 at*
 go_cut [5,6] (fun x y wx=>x= .int .i64 s∧y= .int .i64 s2∧Blk wx b0 #[.bool neg,.slice av nv kv,.int .i64 E]∧Blk wx (b0+1) #[.bool neg2,.slice au nu ku,.int .i64 E2]∧Below b0 w wx)
 case first=>
  have hm:Num w0.drew _ M:=(h.below (hb0▸B0)).below (below_drewN (Below.refl _ _) 1)
  have hg:Num w0.drew _ M2:=(h'.below (hb0▸B0)).below (below_drewN (Below.refl _ _) 1)
  have PD:Blk w0.drew _ _:=P0.below (below_drewN (Below.refl _ _) 1)
  have QD:Blk w0.drew _ _:=Q0.below (below_drewN (Below.refl _ _) 1)
  have BD:Below b0 w w0.drew:=below_drewN B0 1
  clear h h' P0 Q0 B0
  obtain⟨cP0_0,cP1_0,cP2_0,fP0_0,fP1_0,fP2_0,sP_0⟩:=PD.open3
  obtain⟨cQ0_0,cQ1_0,cQ2_0,fQ0_0,fQ1_0,fQ2_0,sQ_0⟩:=QD.open3
  go_region_held3 (fun w'=>w'.cell? ⟨b0,0,none⟩=some (.bool neg)∧w'.cell? ⟨b0,1,none⟩=some (.slice av nv kv)∧w'.cell? ⟨b0,2,none⟩=some (.int .i64 E)∧w'.cell? ⟨b0+1,0,none⟩=some (.bool neg2)∧w'.cell? ⟨b0+1,1,none⟩=some (.slice au nu ku)∧w'.cell? ⟨b0+1,2,none⟩=some (.int .i64 E2)) (first|exact⟨cP0_0,cP1_0,cP2_0,cQ0_0,cQ1_0,cQ2_0⟩|exact⟨cP0_1,cP1_1,cP2_1,cQ0_1,cQ1_1,cQ2_1⟩|exact⟨cP0_2,cP1_2,cP2_2,cQ0_2,cQ1_2,cQ2_2⟩)
  (first
    |(go_at_call 26;(with_reducible refine(Sign_n hm es.out).mono ?_);rintro e w1 ⟨rfl,hb1⟩;have B1:=hb1;have m1:=hm.below hb1;have g1:=hg.below hb1;have P1:=PD.below hb1;have Q1:=QD.below hb1;clear hm hg PD QD;obtain⟨cP0_1,cP1_1,cP2_1,fP0_1,fP1_1,fP2_1,sP_1⟩:=P1.open3;obtain⟨cQ0_1,cQ1_1,cQ2_1,fQ0_1,fQ1_1,fQ2_1,sQ_1⟩:=Q1.open3)
    |(go_at_call 26;(with_reducible refine(Sign_n g1 es2.out).mono ?_);rintro e w2 ⟨rfl,hb2⟩;have B2:=B1.trans (hb2.mono B1.size);have m2:=m1.below hb2;have g2:=g1.below hb2;have P2:=P1.below hb2;have Q2:=Q1.below hb2;clear m1 g1 P1 Q1;clear cP0_1 cP1_1 cP2_1 fP0_1 fP1_1 fP2_1 sP_1;obtain⟨cP0_2,cP1_2,cP2_2,fP0_2,fP1_2,fP2_2,sP_2⟩:=P2.open3;clear cQ0_1 cQ1_1 cQ2_1 fQ0_1 fQ1_1 fQ2_1 sQ_1;obtain⟨cQ0_2,cQ1_2,cQ2_2,fQ0_2,fQ1_2,fQ2_2,sQ_2⟩:=Q2.open3)
    |fail)
  all_goals
   go_wp2_with fail
   go_meet
   exact⟨rfl,rfl,P2,Q2,BD.trans (B2.mono (hb0▸BD.size))⟩
 case rest=>
  obtain⟨rfl,rfl,P1,Q1,B1⟩:=hcut
  clear P0 Q0 B0 h h'
  by_cases hx:s≠s2∨s=0
  ·rw[if_pos hx]at hc
   rw[hc]at HC
   clear hc z1 z2
   by_cases hx1:s=s2
   ·obtain rfl:s=0:=by rcases hx with h|h;·exact absurd hx1 h
                       ·exact h
    subst hx1
    go_wp2_with (go_at_call 78;(with_reducible refine(HC.out _).mono ?_);rintro e w9 ⟨rfl,rfl⟩)
    all_goals
     go_ret
     exact⟨rfl,hb0▸B1⟩
   ·have hx2:(s==s2)=false:=beq_false_of_ne hx1
    clear hx
    go_wp2_with (go_at_call 78;(with_reducible refine(HC.out _).mono ?_);rintro e w9 ⟨rfl,rfl⟩)
    all_goals
     go_ret
     exact⟨rfl,hb0▸B1⟩
  ·rw[if_neg hx]at hc
   have hss:s=s2:=by
    rcases Int.lt_trichotomy s s2 with h|h|h
    ·exact absurd (.inl (by omega)) hx
    ·exact h
    ·exact absurd (.inl (by omega)) hx
   have hs0:s≠0:=fun h=>hx (.inr h)
   have n1:M≠0:=fun h=>hs0 (z1 h)
   have n2:M2≠0:=fun h=>hs0 (hss▸z2 h)
   obtain⟨cm,hcm⟩:∃cm,cmpM ⟨n',M',E'⟩ ⟨n2',M2',E2'⟩=cm:=⟨_,rfl⟩
   have rc: -1≤cm∧cm≤1:=by rw[←hcm];exact cmpN_range _ _
   rw[hcm]at hc
   have ecm:=Lib.hid hcm
   have ee:=Lib.hid e;have ee2:=Lib.hid e2
   have hsb:(s==0)=false:=beq_false_of_ne hs0
   have hw:IntKind.i64.wrap (s*cm)=c:=by
    rw[IntKind.wrap_i64,←hc]
    have:s= -1∨s=1:=by omega
    rcases this with rfl|rfl<;>omega
   clear hc z1 z2 hcm hx e e2
   subst hss
   have hm:Num wc _ M:=H.out.below (hb0▸B1)
   have hg:Num wc _ M2:=H'.out.below (hb0▸B1)
   have hT0:Tab wc:=HT.out.below (hb0▸B1)
   have BC:=B1
   obtain⟨cP0_0,cP1_0,cP2_0,fP0_0,fP1_0,fP2_0,sP_0⟩:=P1.open3
   obtain⟨cQ0_0,cQ1_0,cQ2_0,fQ0_0,fQ1_0,fQ2_0,sQ_0⟩:=Q1.open3
   go_wp2_with
    (first
      |(go_at_call 79;(with_reducible refine(size_n hm hg hT0 h1 h2 h3 h4 ee.out ee2.out n1 n2 sM sM2 ecm.out).mono ?_);rintro e w1 ⟨rfl,hb1⟩;have B1:=hb1;have m1:=hm.below hb1;have g1:=hg.below hb1;have T1:=hT0.below hb1;clear hm hg hT0)
      |fail)
   all_goals
    go_ret
    exact⟨rfl,hb0▸BC.trans (hb1.mono (hb0▸BC.size))⟩
theorem Make_ok {w:World}{v:Value}{neg n':Bool}{M M':Nat}{E E':Int}(h:Num w v M) (hT:Tab w) (h1: -9223372036854775808≤E) (h2:E≤9223372036854775807) (e:bareD ⟨neg,M,E⟩=⟨n',M',E'⟩) (hf:fitsE E'=true):
 Calls Tryz.prog 47 #[.bool neg,v,.int .i64 E] w (fun e w'=>∃v,e= .returned (.tuple #[.agg #[.bool n',v,.int .i64 E'],.int .i64 0])∧RdN w' v (digs BB M')∧Below w.heap.size w w'):=by
 obtain⟨a,n,k,rfl⟩:=h.slice
 have e:=Lib.hid e
 go_enter Tryz.func47,Tryz.ntmps47
 go_wp2_with
  (first
    |(go_at_call 74;(with_reducible refine(Bare_ok (h.below (below_alloc _ _)) (hT.below (below_alloc _ _)) h1 h2 e.out hf).mono ?_);rintro e w1 ⟨vd1,rfl,d1,hb1⟩;have B1:=(below_alloc _ _).trans (hb1.mono (below_alloc _ _).size);have m1:=((h.below (below_alloc _ _))).below hb1;have T1:=((hT.below (below_alloc _ _))).below hb1;have R1:=((blk_new)).below hb1;obtain⟨cR0_1,cR1_1,cR2_1,fR0_1,fR1_1,fR2_1,sR_1⟩:=R1.open3;obtain⟨ad1,kd1,rfl,-⟩:=d1.view;try simp only[List.length_nil]at d1)
    |fail)
 obtain⟨q0,q1,q2,-⟩:=(R1.set3 (.bool n') (.slice ad1 (digs BB M').length kd1) (.int .i64 E')).open3
 refine bodyPost_ret (v:= .tuple #[.agg #[.bool n',.slice ad1 (digs BB M').length kd1,.int .i64 E'],.int .i64 0]) ?_ rfl ?_
 ·simp[results,Tryz.results47,go_sem,q0,q1,q2]
 ·exact⟨_,rfl,d1.set3 R1 dcells _ _ _,below_set3 B1 (Nat.le_refl _) _ _ _⟩
theorem Make_long {w:World}{v:Value}{neg n':Bool}{M M':Nat}{E E':Int}(h:Num w v M) (hT:Tab w) (h1: -9223372036854775808≤E) (h2:E≤9223372036854775807) (e:bareD ⟨neg,M,E⟩=⟨n',M',E'⟩) (hf:fitsE E'=false):
 Calls Tryz.prog 47 #[.bool neg,v,.int .i64 E] w (fun e w'=>e= .returned (.tuple #[.agg #[.bool false,.slice none 0 0,.int .i64 0],.int .i64 2])∧Below w.heap.size w w'):=by
 obtain⟨a,n,k,rfl⟩:=h.slice
 have e:=Lib.hid e
 go_enter Tryz.func47,Tryz.ntmps47
 go_wp2_with
  (first
    |(go_at_call 74;(with_reducible refine(Bare_long (h.below (below_alloc _ _)) (hT.below (below_alloc _ _)) h1 h2 e.out hf).mono ?_);rintro e w1 ⟨rfl,hb1⟩;have B1:=(below_alloc _ _).trans (hb1.mono (below_alloc _ _).size);have m1:=((h.below (below_alloc _ _))).below hb1;have T1:=((hT.below (below_alloc _ _))).below hb1;have R1:=((blk_new)).below hb1;obtain⟨cR0_1,cR1_1,cR2_1,fR0_1,fR1_1,fR2_1,sR_1⟩:=R1.open3)
    |fail)
 obtain⟨q0,q1,q2,-⟩:=(R1.set3 (.bool false) (.slice none 0 0) (.int .i64 0)).open3
 refine bodyPost_ret (v:= .tuple #[.agg #[.bool false,.slice none 0 0,.int .i64 0],.int .i64 2]) ?_ rfl ?_
 ·simp[results,Tryz.results47,go_sem,q0,q1,q2]
 ·exact⟨rfl,below_set3 B1 (Nat.le_refl _) _ _ _⟩
theorem rd_lit2 {w:World}{o:Obj}{n:Nat}{T:TypeId}{fz:Nat×Nat}:RdN ((w.alloc o).alloc (.cells #[.int .u64 (n:Int)] T fz)) (.slice (some ⟨w.heap.size+1,0,none⟩) 1 1) [n]:=rd_one (heap_new2 _ _ _) trivial
theorem Of_n {w:World}{n M':Nat}{n':Bool}{E':Int}(hn:n<9223372036854775808) (hT:Tab w) (e:bareD ⟨false,n,0⟩=⟨n',M',E'⟩):
 Calls Tryz.prog 51 #[.int .i64 n] w (fun e w'=>∃v,e= .returned v∧Db w' v ⟨n',M',E'⟩∧Below w.heap.size w w'):=by
 have e:=Lib.hid e
 have hd:decide ((n:Int)<0)=false:=decide_eq_false (by omega)
 have hw:IntKind.u64.wrap (n:Int)=(n:Int):=by rw[IntKind.wrap_u64];omega
 have hB:n<BB:=by unfold BB;omega
 have h0:(-9223372036854775808:Int)≤0:=by decide
 have h1:(0:Int)≤9223372036854775807:=by decide
 have hX:=Lib.hid (fun w v (h:RdN w v [n]) (hT:Tab w)=>bare_d (neg:=false) (h.num1 hB) hT h0 h1 e.out)
 go_enter Tryz.func51,Tryz.ntmps51
 go_wp2_with
  (first
    |(go_at_call 80;(with_reducible refine(hX.out _ _ (rd_lit2) (hT.below below_2)).mono ?_);rintro e w1 ⟨vd1,rfl,d1,hb1⟩;have B1:=below_2.trans (hb1.mono below_2.size);have m1:=((rd_lit2)).below hb1;have T1:=((hT.below below_2)).below hb1;have R1:=((blk_a1)).below hb1;obtain⟨cR0_1,cR1_1,cR2_1,fR0_1,fR1_1,fR2_1,sR_1⟩:=R1.open3;obtain⟨ud1,rfl,d1⟩:=d1;obtain⟨ad1,kd1,rfl,-⟩:=d1.view)
    |fail)
 obtain⟨q0,q1,q2,-⟩:=(R1.set3 (.bool n') (.slice ad1 (digs BB M').length kd1) (.int .i64 E')).open3
 refine bodyPost_ret (v:= .agg #[.bool n',.slice ad1 (digs BB M').length kd1,.int .i64 E']) ?_ rfl ?_
 ·simp[results,Tryz.results51,go_sem,q0,q1,q2]
 ·exact⟨_,rfl,⟨_,rfl,d1.set3 R1 dcells _ _ _⟩,below_set3 B1 (Nat.le_refl _) _ _ _⟩
end Go.Proofs.YtffaefjkpipjnaaGreatDoor
namespace Go.Proofs.YtffaefjkpipjnaaGreatDoor
set_option maxRecDepth 100000
open Go.RowKit Go.ChangeShapes Go.WideShapes
theorem cells3 {w:World}{b:Nat}{x y z:Value}(h:Blk w b #[x,y,z]):w.cell? ⟨b,0,none⟩=some x∧w.cell? ⟨b,1,none⟩=some y∧w.cell? ⟨b,2,none⟩=some z:=⟨h.open3.1,h.open3.2.1,h.open3.2.2.1⟩
theorem size_alloc {w:World}{o:Obj}:(w.alloc o).heap.size=w.heap.size+1:=by simp
theorem Blk.next {w:World}{b:Nat}{c:Array Value}{o:Obj}(h:Blk w b c):Blk (w.alloc o) b c:=h.below (below_alloc _ _)
theorem Blk.set3z {w:World}{b:Nat}(h:Blk w b #[.bool false,.slice none 0 0,.int .i64 0]) (x' y' z':Value):Blk (((w.setCell ⟨b,0,none⟩ x').setCell ⟨b,1,none⟩ y').setCell ⟨b,2,none⟩ z') b #[x',y',z']:=h.set3 _ _ _
theorem bel_trans {D W u:World}(h:Below D.heap.size D W) (hb:Below W.heap.size W u):Below D.heap.size D u:=h.trans (hb.mono h.size)
theorem size_drew {w:World}:w.drew.heap.size=w.heap.size:=rfl
theorem Blk.dr {w:World}{b:Nat}{c:Array Value}(h:Blk w b c):Blk w.drew b c:=h.below (below_drewN (Below.refl _ _) 1)
theorem bel_dr {D W:World}(h:Below D.heap.size D W):Below D.heap.size D W.drew:=below_drewN h 1
theorem bel_next {D W:World}{o:Obj}(h:Below D.heap.size D W):Below D.heap.size D (W.alloc o):=h.alloc h.size o
theorem bel_set3 {D W:World}(h:Below D.heap.size D W) {b:Nat}(hb:D.heap.size≤b) (x y z:Value):Below D.heap.size D (((W.setCell ⟨b,0,none⟩ x).setCell ⟨b,1,none⟩ y).setCell ⟨b,2,none⟩ z):=below_set3b h hb x y z
theorem RdN.set3z {w:World}{v:Value}{l:List Nat}{b:Nat}(h:RdN w v l) (hB:Blk w b #[.bool false,.slice none 0 0,.int .i64 0]) (x y z:Value):
 RdN (((w.setCell ⟨b,0,none⟩ x).setCell ⟨b,1,none⟩ y).setCell ⟨b,2,none⟩ z) v l:=h.set3 hB dcells _ _ _
end Go.Proofs.YtffaefjkpipjnaaGreatDoor
namespace Go.Proofs.YtffaefjkpipjnaaGreatDoor
set_option maxRecDepth 100000
open Go.RowKit Go.ChangeShapes Go.WideShapes
theorem blk3a {w:World}{c:Array Value}{T:TypeId}{o1 o2:Obj}:Blk (((w.alloc (.cells c T (0,0))).alloc o1).alloc o2) w.heap.size c:=blk_a1.below (below_alloc _ _)
theorem blk3b {w:World}{c:Array Value}{T:TypeId}{o1 o2:Obj}:Blk (((w.alloc o1).alloc (.cells c T (0,0))).alloc o2) (w.heap.size+1) c:=blk_a2.below (below_alloc _ _)
theorem blk3c {w:World}{c:Array Value}{T:TypeId}{o1 o2:Obj}:Blk (((w.alloc o1).alloc o2).alloc (.cells c T (0,0))) (w.heap.size+1+1) c:=by
 have:=blk_a2 (w:=w.alloc o1) (o:=o2) (c:=c) (T:=T)
 have e:(w.alloc o1).heap.size=w.heap.size+1:=by simp
 rw[e]at this;exact this
theorem below3 {w:World}{o1 o2 o3:Obj}:Below w.heap.size w (((w.alloc o1).alloc o2).alloc o3):=below_a below_2
theorem Blk.set1 {w:World}{b:Nat}{x y z:Value}(h:Blk w b #[x,y,z]) (x':Value):Blk (w.setCell ⟨b,0,none⟩ x') b #[x',y,z]:=by
 obtain⟨h1,T,h2⟩:=h
 exact⟨by simpa[World.setCell]using h1,T,heap_setC h2 x'⟩
theorem Blk.other1 {w:World}{b b' j:Nat}{c:Array Value}(h:Blk w b c) (hne:b≠b') (x:Value):Blk (w.setCell ⟨b',j,none⟩ x) b c:=by
 obtain⟨h1,T,h2⟩:=h
 exact⟨by simpa[World.setCell]using h1,T,heap_setO h2 x hne⟩
theorem RdN.set1 {w:World}{v:Value}{l:List Nat}{b:Nat}{c:Array Value}(h:RdN w v l) (hB:Blk w b c) (hc:∀x∈c.toList,∀n:Nat,x≠L64 n) (x:Value):RdN (w.setCell ⟨b,0,none⟩ x) v l:=by
 have h2:=(h.away hB hc).keep (S:=fun g=>g=b) ((Fr.refl (fun g=>g=b) w).setCell (p:=⟨b,0,none⟩) rfl x) (fun _ h=>h)
 exact h2.mono (fun _ _ _=>trivial)
theorem Num.set1 {w:World}{v:Value}{n b:Nat}{c:Array Value}(h:Num w v n) (hB:Blk w b c) (hc:∀x∈c.toList,∀n:Nat,x≠L64 n) (x:Value):Num (w.setCell ⟨b,0,none⟩ x) v n:=by
 obtain⟨l,h1,h2⟩:=h;exact⟨l,h1.set1 hB hc x,h2⟩
theorem Make_q {w:World}{v:Value}{neg n':Bool}{M M':Nat}{E E' k:Int}(h:Num w v M) (hT:Tab w) (h1: -9223372036854775808≤E) (h2:E≤9223372036854775807) (e:makeQ ⟨neg,M,E⟩=(n',M',E',k)):
 Calls Tryz.prog 47 #[.bool neg,v,.int .i64 E] w (fun e w'=>∃v,e= .returned (.tuple #[.agg #[.bool n',v,.int .i64 E'],.int .i64 k])∧RdN w' v (digs BB M')∧Below w.heap.size w w'):=by
 unfold makeQ at e
 split at e
 ·rename_i hf
  injection e with e1 e2;injection e2 with e2 e3;injection e3 with e3 e4
  subst e1 e2 e3 e4
  exact Make_ok h hT h1 h2 rfl hf
 ·rename_i hf
  injection e with e1 e2;injection e2 with e2 e3;injection e3 with e3 e4
  subst e1 e2 e3 e4
  refine(Make_long h hT h1 h2 rfl (eq_false_of_ne_true hf)).mono ?_
  rintro r w' ⟨rfl,hB⟩
  exact⟨_,rfl,RdN.nil0 _,hB⟩
end Go.Proofs.YtffaefjkpipjnaaGreatDoor
namespace Go.Proofs.YtffaefjkpipjnaaGreatDoor
set_option maxRecDepth 100000
open Go.RowKit Go.ChangeShapes Go.WideShapes
theorem bitN_sum {a b k:Nat}(ha:bitN a≤k) (hb:bitN b≤k):bitN (a+b)≤k+1:=by
 rw[bitN_le]at*
 rw[Nat.pow_succ];omega
theorem bareD_odd' {neg:Bool}{M:Nat}{E:Int}(h:M%2=1) (h1: -2147483648≤E) (h2:E≤2147483648):bareD ⟨neg,M,E⟩=⟨neg,M,E⟩:=by
 rw[bareD_pos (show(⟨neg,M,E⟩:Dn).m≠0 by simp only;omega)]
 simp only[low2_odd h,Nat.pow_zero,Nat.div_one]
 unfold cutE
 congr 1;omega
set_option maxHeartbeats 2000000 in
theorem Add_n {w:World}{u u2:Value}{neg neg2 n3:Bool}{M M2 M3:Nat}{E E2 E3 k3:Int}(h:Num w u M) (h':Num w u2 M2) (hT:Tab w) (h1: -9223372036854775808≤E) (h2:E≤9223372036854775807) (h3: -9223372036854775808≤E2) (h4:E2≤9223372036854775807)
 (hq:addQ ⟨neg,M,E⟩ ⟨neg2,M2,E2⟩=(n3,M3,E3,k3)):
 Calls Tryz.prog 68 #[.agg #[.bool neg,u,.int .i64 E],.agg #[.bool neg2,u2,.int .i64 E2]] w (fun e w'=>∃v,e= .returned (.tuple #[.agg #[.bool n3,v,.int .i64 E3],.int .i64 k3])∧RdN w' v (digs BB M3)∧Below w.heap.size w w'):=by
 have sM:=h.bound
 have sM2:=h'.bound
 obtain⟨⟨n1,A1,F1⟩,ed⟩:∃d,bareD ⟨neg,M,E⟩=d:=⟨_,rfl⟩
 obtain⟨⟨n2,A2,F2⟩,ed2⟩:∃d,bareD ⟨neg2,M2,E2⟩=d:=⟨_,rfl⟩
 have sA:bitN A1≤2560000:=by
  have:=bareD_m_le ⟨neg,M,E⟩
  rw[ed]at this
  exact Nat.le_trans (bitN_mono this) sM
 have sA2:bitN A2≤2560000:=by
  have:=bareD_m_le ⟨neg2,M2,E2⟩
  rw[ed2]at this
  exact Nat.le_trans (bitN_mono this) sM2
 have o1:A1≠0→A1%2=1:=fun hz=>by
  have hz':M≠0:=fun h=>hz (by have:=(bareD_m_zero ⟨neg,M,E⟩).2 h;rw[ed]at this;exact this)
  rw[bareD_pos hz']at ed
  injection ed with _ e5 _
  obtain⟨k,hk⟩:=low2_eq hz'
  rw[←e5,odd_eq hk];omega
 have o2:A2≠0→A2%2=1:=fun hz=>by
  have hz':M2≠0:=fun h=>hz (by have:=(bareD_m_zero ⟨neg2,M2,E2⟩).2 h;rw[ed2]at this;exact this)
  rw[bareD_pos hz']at ed2
  injection ed2 with _ e5 _
  obtain⟨k,hk⟩:=low2_eq hz'
  rw[←e5,odd_eq hk];omega
 unfold addQ at hq
 rw[ed,ed2]at hq
 simp only at hq
 obtain⟨au,nu,ku,rfl⟩:=h.slice
 obtain⟨av,nv,kv,rfl⟩:=h'.slice
 by_cases hf:fitsE F1=false
 ·rw[if_pos hf]at hq
  injection hq with z1 z2;injection z2 with z2 z3;injection z3 with z3 z4
  subst z1 z2 z3 z4
  have BA:=Lib.hid (fun w v (h:Num w v M) (hT:Tab w)=>Bare_long h hT h1 h2 ed hf)
  clear ed ed2 o1 o2
  go_enter Tryz.func68,Tryz.ntmps68
  have P0:Blk (((w.alloc (.cells #[.bool neg,.slice au nu ku,.int .i64 E] 63)).alloc (.cells #[.bool neg2,.slice av nv kv,.int .i64 E2] 63)).alloc (.cells #[.bool false,.slice none 0 0,.int .i64 0] 63)) w.heap.size #[.bool neg,.slice au nu ku,.int .i64 E]:=blk3a
  have Q0:Blk (((w.alloc (.cells #[.bool neg,.slice au nu ku,.int .i64 E] 63)).alloc (.cells #[.bool neg2,.slice av nv kv,.int .i64 E2] 63)).alloc (.cells #[.bool false,.slice none 0 0,.int .i64 0] 63)) (w.heap.size+1) #[.bool neg2,.slice av nv kv,.int .i64 E2]:=blk3b
  have R0:Blk (((w.alloc (.cells #[.bool neg,.slice au nu ku,.int .i64 E] 63)).alloc (.cells #[.bool neg2,.slice av nv kv,.int .i64 E2] 63)).alloc (.cells #[.bool false,.slice none 0 0,.int .i64 0] 63)) (w.heap.size+1+1) #[.bool false,.slice none 0 0,.int .i64 0]:=blk3c
  have B0:Below w.heap.size w (((w.alloc (.cells #[.bool neg,.slice au nu ku,.int .i64 E] 63)).alloc (.cells #[.bool neg2,.slice av nv kv,.int .i64 E2] 63)).alloc (.cells #[.bool false,.slice none 0 0,.int .i64 0] 63)):=below3
  have m0:=h.below B0;have T0:=hT.below B0
  go_wp2_with
   (first
     |(go_at_call 74;(with_reducible refine(BA.out _ _ m0 T0).mono ?_);rintro e w1 ⟨rfl,hb1⟩;have B1:=B0.trans (hb1.mono B0.size);have m1:=m0.below hb1;have T1:=T0.below hb1;have P1:=P0.below hb1;have Q1:=Q0.below hb1;have R1:=R0.below hb1;clear m0 T0 P0 Q0 R0;obtain⟨cP0_1,cP1_1,cP2_1,fP0_1,fP1_1,fP2_1,sP_1⟩:=P1.open3;obtain⟨cQ0_1,cQ1_1,cQ2_1,fQ0_1,fQ1_1,fQ2_1,sQ_1⟩:=Q1.open3;obtain⟨cR0_1,cR1_1,cR2_1,fR0_1,fR1_1,fR2_1,sR_1⟩:=R1.open3)
     |fail)
  obtain⟨q0,q1,q2,-⟩:=((R1.other3 (b':=w.heap.size) (by omega) (.bool false) (.slice none 0 0) (.int .i64 0)).set3 (.bool false) (.slice none 0 0) (.int .i64 0)).open3
  refine bodyPost_ret (v:= .tuple #[.agg #[.bool false,.slice none 0 0,.int .i64 0],.int .i64 2]) ?_ rfl ?_
  ·simp[results,Tryz.results68,go_sem,q0,q1,q2]
  ·exact⟨_,rfl,RdN.nil0 _,below_set3b (below_set3b B1 (Nat.le_refl _) (.bool false) (.slice none 0 0) (.int .i64 0)) (by omega) _ _ _⟩
 rw[if_neg hf]at hq
 have hf':fitsE F1=true:=by revert hf;cases fitsE F1<;>simp
 clear hf
 have BA:=Lib.hid (fun w v (h:Num w v M) (hT:Tab w)=>Bare_ok h hT h1 h2 ed hf')
 have rF: -1073741824≤F1∧F1≤1073741824:=by unfold fitsE at hf';simp at hf';exact hf'
 by_cases hf:fitsE F2=false
 ·rw[if_pos hf]at hq
  injection hq with z1 z2;injection z2 with z2 z3;injection z3 with z3 z4
  subst z1 z2 z3 z4
  have BC:=Lib.hid (fun w v (h:Num w v M2) (hT:Tab w)=>Bare_long h hT h3 h4 ed2 hf)
  clear ed ed2 o1 o2
  go_enter Tryz.func68,Tryz.ntmps68
  have P0:Blk (((w.alloc (.cells #[.bool neg,.slice au nu ku,.int .i64 E] 63)).alloc (.cells #[.bool neg2,.slice av nv kv,.int .i64 E2] 63)).alloc (.cells #[.bool false,.slice none 0 0,.int .i64 0] 63)) w.heap.size #[.bool neg,.slice au nu ku,.int .i64 E]:=blk3a
  have Q0:Blk (((w.alloc (.cells #[.bool neg,.slice au nu ku,.int .i64 E] 63)).alloc (.cells #[.bool neg2,.slice av nv kv,.int .i64 E2] 63)).alloc (.cells #[.bool false,.slice none 0 0,.int .i64 0] 63)) (w.heap.size+1) #[.bool neg2,.slice av nv kv,.int .i64 E2]:=blk3b
  have R0:Blk (((w.alloc (.cells #[.bool neg,.slice au nu ku,.int .i64 E] 63)).alloc (.cells #[.bool neg2,.slice av nv kv,.int .i64 E2] 63)).alloc (.cells #[.bool false,.slice none 0 0,.int .i64 0] 63)) (w.heap.size+1+1) #[.bool false,.slice none 0 0,.int .i64 0]:=blk3c
  have B0:Below w.heap.size w (((w.alloc (.cells #[.bool neg,.slice au nu ku,.int .i64 E] 63)).alloc (.cells #[.bool neg2,.slice av nv kv,.int .i64 E2] 63)).alloc (.cells #[.bool false,.slice none 0 0,.int .i64 0] 63)):=below3
  have m0:=h.below B0;have T0:=hT.below B0
  go_upto_region 4 with
   (first
     |(go_at_call 74;(with_reducible refine(BA.out _ _ m0 T0).mono ?_);rintro e w1 ⟨vx1,rfl,x1,hb1⟩;have B1:=B0.trans (hb1.mono B0.size);have m1:=m0.below hb1;have T1:=T0.below hb1;have P1:=P0.below hb1;have Q1:=Q0.below hb1;have R1:=R0.below hb1;clear m0 T0 P0 Q0 R0;obtain⟨cP0_1,cP1_1,cP2_1,fP0_1,fP1_1,fP2_1,sP_1⟩:=P1.open3;obtain⟨cQ0_1,cQ1_1,cQ2_1,fQ0_1,fQ1_1,fQ2_1,sQ_1⟩:=Q1.open3;obtain⟨cR0_1,cR1_1,cR2_1,fR0_1,fR1_1,fR2_1,sR_1⟩:=R1.open3;obtain⟨ax1,kx1,rfl,-⟩:=x1.view;try simp only[List.length_nil]at x1)
     |fail)
  have P5:=P1.set3 (.bool n1) (.slice ax1 (digs BB A1).length kx1) (.int .i64 F1)
  have Q5:=Q1.other3 (b':=w.heap.size) (by omega) (.bool n1) (.slice ax1 (digs BB A1).length kx1) (.int .i64 F1)
  have R5:=R1.other3 (b':=w.heap.size) (by omega) (.bool n1) (.slice ax1 (digs BB A1).length kx1) (.int .i64 F1)
  have x5:=x1.set3 P1 dcells (.bool n1) (.slice ax1 (digs BB A1).length kx1) (.int .i64 F1)
  have B5:=below_set3b (b:=w.heap.size) B1 (Nat.le_refl _) (.bool n1) (.slice ax1 (digs BB A1).length kx1) (.int .i64 F1)
  clear cP0_1 cP1_1 cP2_1 fP0_1 fP1_1 fP2_1 sP_1 cQ0_1 cQ1_1 cQ2_1 fQ0_1 fQ1_1 fQ2_1 sQ_1 cR0_1 cR1_1 cR2_1 fR0_1 fR1_1 fR2_1 sR_1 P1 Q1 R1 x1 B1 m1 T1 hb1
  generalize ((w1.setCell ⟨w.heap.size,0,none⟩ (.bool n1)).setCell ⟨w.heap.size,1,none⟩ (.slice ax1 (digs BB A1).length kx1)).setCell ⟨w.heap.size,2,none⟩ (.int .i64 F1)=w5 at*
  have g5:=h'.below B5;have T5:=hT.below B5
  obtain⟨cP0_5,cP1_5,cP2_5,fP0_5,fP1_5,fP2_5,sP_5⟩:=P5.open3
  obtain⟨cQ0_5,cQ1_5,cQ2_5,fQ0_5,fQ1_5,fQ2_5,sQ_5⟩:=Q5.open3
  obtain⟨cR0_5,cR1_5,cR2_5,fR0_5,fR1_5,fR2_5,sR_5⟩:=R5.open3
  go_wp2_with
   (first
     |(go_at_call 74;(with_reducible refine(BC.out _ _ g5 T5).mono ?_);rintro e w6 ⟨rfl,hb6⟩;have B6:=B5.trans (hb6.mono B5.size);have g6:=g5.below hb6;have T6:=T5.below hb6;have P6:=P5.below hb6;have Q6:=Q5.below hb6;have R6:=R5.below hb6;clear g5 T5 P5 Q5 R5;obtain⟨cP0_6,cP1_6,cP2_6,fP0_6,fP1_6,fP2_6,sP_6⟩:=P6.open3;obtain⟨cQ0_6,cQ1_6,cQ2_6,fQ0_6,fQ1_6,fQ2_6,sQ_6⟩:=Q6.open3;obtain⟨cR0_6,cR1_6,cR2_6,fR0_6,fR1_6,fR2_6,sR_6⟩:=R6.open3)
     |fail)
  obtain⟨q0,q1,q2,-⟩:=((R6.other3 (b':=w.heap.size+1) (by omega) (.bool false) (.slice none 0 0) (.int .i64 0)).set3 (.bool false) (.slice none 0 0) (.int .i64 0)).open3
  refine bodyPost_ret (v:= .tuple #[.agg #[.bool false,.slice none 0 0,.int .i64 0],.int .i64 2]) ?_ rfl ?_
  ·simp[results,Tryz.results68,go_sem,q0,q1,q2]
  ·exact⟨_,rfl,RdN.nil0 _,below_set3b (below_set3b B6 (by omega) (.bool false) (.slice none 0 0) (.int .i64 0)) (by omega) _ _ _⟩
 rw[if_neg hf]at hq
 have hf2':fitsE F2=true:=by revert hf;cases fitsE F2<;>simp
 clear hf
 have BC:=Lib.hid (fun w v (h:Num w v M2) (hT:Tab w)=>Bare_ok h hT h3 h4 ed2 hf2')
 have rF2: -1073741824≤F2∧F2≤1073741824:=by unfold fitsE at hf2';simp at hf2';exact hf2'
 clear ed ed2 sM sM2
 go_enter Tryz.func68,Tryz.ntmps68
 have P0:Blk (((w.alloc (.cells #[.bool neg,.slice au nu ku,.int .i64 E] 63)).alloc (.cells #[.bool neg2,.slice av nv kv,.int .i64 E2] 63)).alloc (.cells #[.bool false,.slice none 0 0,.int .i64 0] 63)) w.heap.size #[.bool neg,.slice au nu ku,.int .i64 E]:=blk3a
 have Q0:Blk (((w.alloc (.cells #[.bool neg,.slice au nu ku,.int .i64 E] 63)).alloc (.cells #[.bool neg2,.slice av nv kv,.int .i64 E2] 63)).alloc (.cells #[.bool false,.slice none 0 0,.int .i64 0] 63)) (w.heap.size+1) #[.bool neg2,.slice av nv kv,.int .i64 E2]:=blk3b
 have R0:Blk (((w.alloc (.cells #[.bool neg,.slice au nu ku,.int .i64 E] 63)).alloc (.cells #[.bool neg2,.slice av nv kv,.int .i64 E2] 63)).alloc (.cells #[.bool false,.slice none 0 0,.int .i64 0] 63)) (w.heap.size+1+1) #[.bool false,.slice none 0 0,.int .i64 0]:=blk3c
 have B0:Below w.heap.size w (((w.alloc (.cells #[.bool neg,.slice au nu ku,.int .i64 E] 63)).alloc (.cells #[.bool neg2,.slice av nv kv,.int .i64 E2] 63)).alloc (.cells #[.bool false,.slice none 0 0,.int .i64 0] 63)):=below3
 have m0:=h.below B0;have T0:=hT.below B0
 go_upto_region 4 with
  (first
    |(go_at_call 74;(with_reducible refine(BA.out _ _ m0 T0).mono ?_);rintro e w1 ⟨vx1,rfl,x1,hb1⟩;have B1:=B0.trans (hb1.mono B0.size);have m1:=m0.below hb1;have T1:=T0.below hb1;have P1:=P0.below hb1;have Q1:=Q0.below hb1;have R1:=R0.below hb1;clear m0 T0 P0 Q0 R0;obtain⟨cP0_1,cP1_1,cP2_1,fP0_1,fP1_1,fP2_1,sP_1⟩:=P1.open3;obtain⟨cQ0_1,cQ1_1,cQ2_1,fQ0_1,fQ1_1,fQ2_1,sQ_1⟩:=Q1.open3;obtain⟨cR0_1,cR1_1,cR2_1,fR0_1,fR1_1,fR2_1,sR_1⟩:=R1.open3;obtain⟨ax1,kx1,rfl,-⟩:=x1.view;try simp only[List.length_nil]at x1)
    |fail)
 have P5:=P1.set3 (.bool n1) (.slice ax1 (digs BB A1).length kx1) (.int .i64 F1)
 have Q5:=Q1.other3 (b':=w.heap.size) (by omega) (.bool n1) (.slice ax1 (digs BB A1).length kx1) (.int .i64 F1)
 have R5:=R1.other3 (b':=w.heap.size) (by omega) (.bool n1) (.slice ax1 (digs BB A1).length kx1) (.int .i64 F1)
 have x5:=x1.set3 P1 dcells (.bool n1) (.slice ax1 (digs BB A1).length kx1) (.int .i64 F1)
 have B5:=below_set3b (b:=w.heap.size) B1 (Nat.le_refl _) (.bool n1) (.slice ax1 (digs BB A1).length kx1) (.int .i64 F1)
 clear cP0_1 cP1_1 cP2_1 fP0_1 fP1_1 fP2_1 sP_1 cQ0_1 cQ1_1 cQ2_1 fQ0_1 fQ1_1 fQ2_1 sQ_1 cR0_1 cR1_1 cR2_1 fR0_1 fR1_1 fR2_1 sR_1 P1 Q1 R1 x1 B1 m1 T1 hb1
 generalize ((w1.setCell ⟨w.heap.size,0,none⟩ (.bool n1)).setCell ⟨w.heap.size,1,none⟩ (.slice ax1 (digs BB A1).length kx1)).setCell ⟨w.heap.size,2,none⟩ (.int .i64 F1)=w5 at*
 have g5:=h'.below B5;have T5:=hT.below B5
 obtain⟨cP0_5,cP1_5,cP2_5,fP0_5,fP1_5,fP2_5,sP_5⟩:=P5.open3
 obtain⟨cQ0_5,cQ1_5,cQ2_5,fQ0_5,fQ1_5,fQ2_5,sQ_5⟩:=Q5.open3
 obtain⟨cR0_5,cR1_5,cR2_5,fR0_5,fR1_5,fR2_5,sR_5⟩:=R5.open3
 go_upto_region 7 with
  (first
    |(go_at_call 74;(with_reducible refine(BC.out _ _ g5 T5).mono ?_);rintro e w6 ⟨vy6,rfl,y6,hb6⟩;have B6:=B5.trans (hb6.mono B5.size);have x6:=x5.below hb6;have g6:=g5.below hb6;have T6:=T5.below hb6;have P6:=P5.below hb6;have Q6:=Q5.below hb6;have R6:=R5.below hb6;clear x5 g5 T5 P5 Q5 R5;obtain⟨cP0_6,cP1_6,cP2_6,fP0_6,fP1_6,fP2_6,sP_6⟩:=P6.open3;obtain⟨cQ0_6,cQ1_6,cQ2_6,fQ0_6,fQ1_6,fQ2_6,sQ_6⟩:=Q6.open3;obtain⟨cR0_6,cR1_6,cR2_6,fR0_6,fR1_6,fR2_6,sR_6⟩:=R6.open3;obtain⟨ay6,ky6,rfl,-⟩:=y6.view;try simp only[List.length_nil]at y6)
    |fail)
 have Q7:=Q6.set3 (.bool n2) (.slice ay6 (digs BB A2).length ky6) (.int .i64 F2)
 have P7:=P6.other3 (b':=w.heap.size+1) (by omega) (.bool n2) (.slice ay6 (digs BB A2).length ky6) (.int .i64 F2)
 have R7:=R6.other3 (b':=w.heap.size+1) (by omega) (.bool n2) (.slice ay6 (digs BB A2).length ky6) (.int .i64 F2)
 have x7:=x6.set3 Q6 dcells (.bool n2) (.slice ay6 (digs BB A2).length ky6) (.int .i64 F2)
 have y7:=y6.set3 Q6 dcells (.bool n2) (.slice ay6 (digs BB A2).length ky6) (.int .i64 F2)
 have B7:=below_set3b (b:=w.heap.size+1) B6 (by omega) (.bool n2) (.slice ay6 (digs BB A2).length ky6) (.int .i64 F2)
 clear cP0_6 cP1_6 cP2_6 fP0_6 fP1_6 fP2_6 sP_6 cQ0_6 cQ1_6 cQ2_6 fQ0_6 fQ1_6 fQ2_6 sQ_6 cR0_6 cR1_6 cR2_6 fR0_6 fR1_6 fR2_6 sR_6 P6 Q6 R6 x6 y6 B6 g6 T6 hb6
 generalize ((w6.setCell ⟨w.heap.size+1,0,none⟩ (.bool n2)).setCell ⟨w.heap.size+1,1,none⟩ (.slice ay6 (digs BB A2).length ky6)).setCell ⟨w.heap.size+1,2,none⟩ (.int .i64 F2)=w7 at*
 have T7:=hT.below B7
 obtain⟨cP0_7,cP1_7,cP2_7,fP0_7,fP1_7,fP2_7,sP_7⟩:=P7.open3
 obtain⟨cQ0_7,cQ1_7,cQ2_7,fQ0_7,fQ1_7,fQ2_7,sQ_7⟩:=Q7.open3
 obtain⟨cR0_7,cR1_7,cR2_7,fR0_7,fR1_7,fR2_7,sR_7⟩:=R7.open3
 by_cases ha:A1=0
 ·rw[if_pos ha]at hq
  injection hq with z1 z2;injection z2 with z2 z3;injection z3 with z3 z4
  subst z1 z2 z3 z4 ha
  rw[digs_zero]at*
  rw[List.length_nil]at*
  go_wp2_with fail
  obtain⟨q0,q1,q2,-⟩:=(R7.set3 (.bool n2) (.slice ay6 (digs BB A2).length ky6) (.int .i64 F2)).open3
  refine bodyPost_ret (v:= .tuple #[.agg #[.bool n2,.slice ay6 (digs BB A2).length ky6,.int .i64 F2],.int .i64 0]) ?_ rfl ?_
  ·simp[results,Tryz.results68,go_sem,q0,q1,q2]
  ·exact⟨_,rfl,y7.set3 R7 dcells _ _ _,below_set3b B7 (by omega) _ _ _⟩
 rw[if_neg ha]at hq
 have hsn:digs BB A1≠[]:=fun e=>ha ((digs_nil_iff BB_two _).1 e)
 have hsi:((digs BB A1).length:Int)≠0:=by have:=List.length_pos_iff.2 hsn;omega
 by_cases ha2:A2=0
 ·rw[if_pos ha2]at hq
  injection hq with z1 z2;injection z2 with z2 z3;injection z3 with z3 z4
  subst z1 z2 z3 z4 ha2
  rw[digs_zero]at*
  rw[List.length_nil]at*
  go_wp2_with fail
  obtain⟨q0,q1,q2,-⟩:=(R7.set3 (.bool n1) (.slice ax1 (digs BB A1).length kx1) (.int .i64 F1)).open3
  refine bodyPost_ret (v:= .tuple #[.agg #[.bool n1,.slice ax1 (digs BB A1).length kx1,.int .i64 F1],.int .i64 0]) ?_ rfl ?_
  ·simp[results,Tryz.results68,go_sem,q0,q1,q2]
  ·exact⟨_,rfl,x7.set3 R7 dcells _ _ _,below_set3b B7 (by omega) _ _ _⟩
 rw[if_neg ha2]at hq
 have hsn2:digs BB A2≠[]:=fun e=>ha2 ((digs_nil_iff BB_two _).1 e)
 have hsi2:((digs BB A2).length:Int)≠0:=by have:=List.length_pos_iff.2 hsn2;omega
 have TA:=Lib.hid (fun w v (h:RdN w v (digs BB A1)) (hT:Tab w)=>Top_n (h.num sA) hT (by omega) (by omega) (bareD_odd' (neg:=n1) (E:=F1) (o1 ha) (by omega) (by omega)) ha)
 have TC:=Lib.hid (fun w v (h:RdN w v (digs BB A2)) (hT:Tab w)=>Top_n (h.num sA2) hT (by omega) (by omega) (bareD_odd' (neg:=n2) (E:=F2) (o2 ha2) (by omega) (by omega)) ha2)
 obtain⟨t1,ht1⟩:∃t,topD ⟨n1,A1,F1⟩=t:=⟨_,rfl⟩
 obtain⟨t2,ht2⟩:∃t,topD ⟨n2,A2,F2⟩=t:=⟨_,rfl⟩
 obtain⟨low,hlow⟩:∃l,min F1 F2=l:=⟨_,rfl⟩
 obtain⟨tm,htm⟩:∃l,max t1 t2=l:=⟨_,rfl⟩
 rw[ht1]at TA hq
 rw[ht2]at TC hq
 rw[hlow,htm]at hq
 have et1:=Lib.hid ht1;have et2:=Lib.hid ht2;have elow:=Lib.hid hlow;have etm:=Lib.hid htm
 have bt1:t1.natAbs≤8589934592:=by rw[←ht1];unfold topD;simp only;omega
 have bt2:t2.natAbs≤8589934592:=by rw[←ht2];unfold topD;simp only;omega
 have hwt:wrap64 (tm-low)=tm-low:=by unfold wrap64;omega
 have hwt':IntKind.i64.wrap (tm-low)=tm-low:=by rw[IntKind.wrap_i64];omega
 obtain⟨sp,hsp⟩:∃s,tm-low=s:=⟨_,rfl⟩
 rw[hsp]at hq hwt hwt'
 clear ht1 ht2 o1 o2
 by_cases hbig:65535<sp
 ·rw[if_pos hbig]at hq
  injection hq with z1 z2;injection z2 with z2 z3;injection z3 with z3 z4
  subst z1 z2 z3 z4
  have dbig:decide (65535<sp)=true:=decide_eq_true hbig
  clear bt1 bt2 hbig
  go_wp2_with
   (first
     |(go_at_call 69;(with_reducible refine(TA.out _ _ x7 T7).mono ?_);rintro e w8 ⟨rfl,hb8⟩;have B8:=B7.trans (hb8.mono B7.size);have x8:=x7.below hb8;have y8:=y7.below hb8;have T8:=T7.below hb8;have P8:=P7.below hb8;have Q8:=Q7.below hb8;have R8:=R7.below hb8;clear x7 y7 T7 P7 Q7 R7;obtain⟨cP0_8,cP1_8,cP2_8,fP0_8,fP1_8,fP2_8,sP_8⟩:=P8.open3;obtain⟨cQ0_8,cQ1_8,cQ2_8,fQ0_8,fQ1_8,fQ2_8,sQ_8⟩:=Q8.open3;obtain⟨cR0_8,cR1_8,cR2_8,fR0_8,fR1_8,fR2_8,sR_8⟩:=R8.open3)
     |(go_at_call 69;(with_reducible refine(TC.out _ _ y8 T8).mono ?_);rintro e w9 ⟨rfl,hb9⟩;have B9:=B8.trans (hb9.mono B8.size);have x9:=x8.below hb9;have y9:=y8.below hb9;have T9:=T8.below hb9;have P9:=P8.below hb9;have Q9:=Q8.below hb9;have R9:=R8.below hb9;clear x8 y8 T8 P8 Q8 R8;clear cP0_8 cP1_8 cP2_8 fP0_8 fP1_8 fP2_8 sP_8;obtain⟨cP0_9,cP1_9,cP2_9,fP0_9,fP1_9,fP2_9,sP_9⟩:=P9.open3;clear cQ0_8 cQ1_8 cQ2_8 fQ0_8 fQ1_8 fQ2_8 sQ_8;obtain⟨cQ0_9,cQ1_9,cQ2_9,fQ0_9,fQ1_9,fQ2_9,sQ_9⟩:=Q9.open3;clear cR0_8 cR1_8 cR2_8 fR0_8 fR1_8 fR2_8 sR_8;obtain⟨cR0_9,cR1_9,cR2_9,fR0_9,fR1_9,fR2_9,sR_9⟩:=R9.open3)
     |fail)
  obtain⟨q0,q1,q2,-⟩:=(R9.set3 (.bool false) (.slice none 0 0) (.int .i64 0)).open3
  refine bodyPost_ret (v:= .tuple #[.agg #[.bool false,.slice none 0 0,.int .i64 0],.int .i64 2]) ?_ rfl ?_
  ·simp[results,Tryz.results68,go_sem,q0,q1,q2]
  ·exact⟨_,rfl,RdN.nil0 _,below_set3b B9 (by omega) _ _ _⟩
 rw[if_neg hbig]at hq
 have dbig:decide (65535<sp)=false:=decide_eq_false hbig
 go_upto_region 16 with
  (first
    |(go_at_call 69;(with_reducible refine(TA.out _ _ x7 T7).mono ?_);rintro e w8 ⟨rfl,hb8⟩;have B8:=B7.trans (hb8.mono B7.size);have x8:=x7.below hb8;have y8:=y7.below hb8;have T8:=T7.below hb8;have P8:=P7.below hb8;have Q8:=Q7.below hb8;have R8:=R7.below hb8;clear x7 y7 T7 P7 Q7 R7;obtain⟨cP0_8,cP1_8,cP2_8,fP0_8,fP1_8,fP2_8,sP_8⟩:=P8.open3;obtain⟨cQ0_8,cQ1_8,cQ2_8,fQ0_8,fQ1_8,fQ2_8,sQ_8⟩:=Q8.open3;obtain⟨cR0_8,cR1_8,cR2_8,fR0_8,fR1_8,fR2_8,sR_8⟩:=R8.open3)
    |(go_at_call 69;(with_reducible refine(TC.out _ _ y8 T8).mono ?_);rintro e w9 ⟨rfl,hb9⟩;have B9:=B8.trans (hb9.mono B8.size);have x9:=x8.below hb9;have y9:=y8.below hb9;have T9:=T8.below hb9;have P9:=P8.below hb9;have Q9:=Q8.below hb9;have R9:=R8.below hb9;clear x8 y8 T8 P8 Q8 R8;clear cP0_8 cP1_8 cP2_8 fP0_8 fP1_8 fP2_8 sP_8;obtain⟨cP0_9,cP1_9,cP2_9,fP0_9,fP1_9,fP2_9,sP_9⟩:=P9.open3;clear cQ0_8 cQ1_8 cQ2_8 fQ0_8 fQ1_8 fQ2_8 sQ_8;obtain⟨cQ0_9,cQ1_9,cQ2_9,fQ0_9,fQ1_9,fQ2_9,sQ_9⟩:=Q9.open3;clear cR0_8 cR1_8 cR2_8 fR0_8 fR1_8 fR2_8 sR_8;obtain⟨cR0_9,cR1_9,cR2_9,fR0_9,fR1_9,fR2_9,sR_9⟩:=R9.open3)
    |fail)
 have hs1:F1-low=((F1-low).toNat:Nat):=(Int.toNat_of_nonneg (by omega)).symm
 have hs2:F2-low=((F2-low).toNat:Nat):=(Int.toNat_of_nonneg (by omega)).symm
 generalize (F1-low).toNat=s1 at*
 generalize (F2-low).toNat=s2 at*
 have g1:=et1.out;have g2:=et2.out;have g3:=etm.out;have g4:=elow.out
 unfold topD at g1 g2
 simp only at g1 g2
 have b1:bitN A1+s1≤65536:=by omega
 have b2:bitN A2+s2≤65536:=by omega
 unfold sumD at hq
 simp only at hq
 rw[g4,hs1,hs2]at hq
 simp only[Int.toNat_natCast]at hq
 have WA:=Lib.hid (fun w v (h:RdN w v (digs BB A1))=>by
  have:=widened_i (n:=(s1:Int)) h (by rw[Int.toNat_natCast];omega) (by omega)
  rw[Int.toNat_natCast]at this;exact this)
 have WC:=Lib.hid (fun w v (h:RdN w v (digs BB A2))=>by
  have:=widened_i (n:=(s2:Int)) h (by rw[Int.toNat_natCast];omega) (by omega)
  rw[Int.toNat_natCast]at this;exact this)
 obtain⟨X,hX⟩:∃X,A1*2^s1=X:=⟨_,rfl⟩
 obtain⟨Y,hY⟩:∃X,A2*2^s2=X:=⟨_,rfl⟩
 have bX:bitN X≤65536:=by rw[←hX,bitN_shift ha];exact b1
 have bY:bitN Y≤65536:=by rw[←hY,bitN_shift ha2];exact b2
 rw[hX]at WA hq
 rw[hY]at WC hq
 have hw1:IntKind.i64.wrap (s1:Int)=(s1:Int):=by rw[IntKind.wrap_i64];omega
 have hw2:IntKind.i64.wrap (s2:Int)=(s2:Int):=by rw[IntKind.wrap_i64];omega
 have rl: -1073741824≤low∧low≤1073741824:=by omega
 clear hX hY b1 b2 g1 g2 g3 g4 hwt hwt' hsp bt1 bt2 dbig hbig hlow htm et1 et2 etm elow
 clear cP0_9 cP1_9 cP2_9 fP0_9 fP1_9 fP2_9 sP_9 cQ0_9 cQ1_9 cQ2_9 fQ0_9 fQ1_9 fQ2_9 sQ_9 cR0_9 cR1_9 cR2_9 fR0_9 fR1_9 fR2_9 sR_9
 go_cut [12,13] (fun v12 v13 w'=>∃ap np kp aq nq kq,v12= .slice ap np kp∧v13= .slice aq nq kq∧Num w' (.slice ap np kp) X∧Num w' (.slice aq nq kq) Y∧Blk w' w.heap.size #[.bool n1,.slice ax1 (digs BB A1).length kx1,.int .i64 F1]∧Blk w' (w.heap.size+1) #[.bool n2,.slice ay6 (digs BB A2).length ky6,.int .i64 F2]∧Blk w' (w.heap.size+1+1) #[.bool false,.slice none 0 0,.int .i64 0]∧Below w.heap.size w w')
 case first=>
  have hAD10:Below w9.heap.size w9 w9.drew:=below_drewN (Below.refl _ _) 1
  have P10:=P9.below hAD10;have Q10:=Q9.below hAD10;have R10:=R9.below hAD10
  have B10:=B9.trans (hAD10.mono B9.size)
  obtain⟨cP0_10,cP1_10,cP2_10,fP0_10,fP1_10,fP2_10,sP_10⟩:=P10.open3
  obtain⟨cQ0_10,cQ1_10,cQ2_10,fQ0_10,fQ1_10,fQ2_10,sQ_10⟩:=Q10.open3
  obtain⟨cR0_10,cR1_10,cR2_10,fR0_10,fR1_10,fR2_10,sR_10⟩:=R10.open3
  have x10:=x9.below hAD10;have y10:=y9.below hAD10
  go_region_held3 (fun w'=>(w'.cell? ⟨w.heap.size,0,none⟩=some (.bool n1)∧w'.cell? ⟨w.heap.size,1,none⟩=some (.slice ax1 (digs BB A1).length kx1)∧w'.cell? ⟨w.heap.size,2,none⟩=some (.int .i64 F1))∧w'.cell? ⟨w.heap.size+1,0,none⟩=some (.bool n2)∧w'.cell? ⟨w.heap.size+1,1,none⟩=some (.slice ay6 (digs BB A2).length ky6)∧w'.cell? ⟨w.heap.size+1,2,none⟩=some (.int .i64 F2)) (first|with_reducible exact⟨⟨cP0_10,cP1_10,cP2_10⟩,cQ0_10,cQ1_10,cQ2_10⟩|with_reducible exact⟨⟨cP0_11,cP1_11,cP2_11⟩,cQ0_11,cQ1_11,cQ2_11⟩|with_reducible exact⟨⟨cP0_12,cP1_12,cP2_12⟩,cQ0_12,cQ1_12,cQ2_12⟩)
  (first
    |(go_at_call 112;(with_reducible refine(WA.out _ _ x10).mono ?_);rintro e w11 ⟨vp11,rfl,p11,hb11⟩;have B11:=B10.trans (hb11.mono B10.size);have x11:=x10.below hb11;have y11:=y10.below hb11;have P11:=P10.below hb11;have Q11:=Q10.below hb11;have R11:=R10.below hb11;clear x10 y10 P10 Q10 R10;obtain⟨cP0_11,cP1_11,cP2_11,fP0_11,fP1_11,fP2_11,sP_11⟩:=P11.open3;obtain⟨cQ0_11,cQ1_11,cQ2_11,fQ0_11,fQ1_11,fQ2_11,sQ_11⟩:=Q11.open3;obtain⟨cR0_11,cR1_11,cR2_11,fR0_11,fR1_11,fR2_11,sR_11⟩:=R11.open3;obtain⟨ap,np,kp,rfl⟩:=p11.slice)
    |(go_at_call 112;(with_reducible refine(WC.out _ _ y11).mono ?_);rintro e w12 ⟨vq12,rfl,q12,hb12⟩;have B12:=B11.trans (hb12.mono B11.size);have x12:=x11.below hb12;have y12:=y11.below hb12;have P12:=P11.below hb12;have Q12:=Q11.below hb12;have R12:=R11.below hb12;have p12:=p11.below hb12;clear x11 y11 P11 Q11 R11 p11;clear cP0_11 cP1_11 cP2_11 fP0_11 fP1_11 fP2_11 sP_11;obtain⟨cP0_12,cP1_12,cP2_12,fP0_12,fP1_12,fP2_12,sP_12⟩:=P12.open3;clear cQ0_11 cQ1_11 cQ2_11 fQ0_11 fQ1_11 fQ2_11 sQ_11;obtain⟨cQ0_12,cQ1_12,cQ2_12,fQ0_12,fQ1_12,fQ2_12,sQ_12⟩:=Q12.open3;clear cR0_11 cR1_11 cR2_11 fR0_11 fR1_11 fR2_11 sR_11;obtain⟨cR0_12,cR1_12,cR2_12,fR0_12,fR1_12,fR2_12,sR_12⟩:=R12.open3;obtain⟨aq,nq,kq,rfl⟩:=q12.slice)
    |fail)
  all_goals
   go_wp2_with fail
   go_meet
   exact⟨_,_,_,_,_,_,rfl,rfl,p12,q12,P12,Q12,R12,B12⟩
 case rest=>
  obtain⟨ap,np,kp,aq,nq,kq,rfl,rfl,p11,q11,P11,Q11,R11,B11⟩:=hcut
  have T11:=hT.below B11
  generalize hwx:wc=w11 at*
  clear hwx x9 y9 T9 P9 Q9 R9 B9
  have CP:=Lib.hid (fun w v u (h:Num w v X) (k:Num w u Y)=>cmp_n h k rfl)
  obtain⟨cP0_11,cP1_11,cP2_11,fP0_11,fP1_11,fP2_11,sP_11⟩:=P11.open3
  obtain⟨cQ0_11,cQ1_11,cQ2_11,fQ0_11,fQ1_11,fQ2_11,sQ_11⟩:=Q11.open3
  obtain⟨cR0_11,cR1_11,cR2_11,fR0_11,fR1_11,fR2_11,sR_11⟩:=R11.open3
  by_cases hn:n1=n2
  ·subst hn
   have hadd:addR n1 n1 X Y=(n1,X+Y):=if_pos rfl
   rw[hadd]at hq
   simp only at hq
   have bS:=bitN_sum bX bY
   have AD:=Lib.hid (fun w v u (h:Num w v X) (k:Num w u Y)=>add_n h k rfl)
   have MK:=Lib.hid (fun w v (h:RdN w v (digs BB (X+Y))) (hT:Tab w)=>Make_q (h.num (by omega)) hT (by omega) (by omega) hq)
   clear hq hadd
   go_upto_region 18 with fail
   have hAD20:Below w11.heap.size w11 w11.drew:=below_drewN (Below.refl _ _) 1
   have P20:=P11.below hAD20;have Q20:=Q11.below hAD20;have R20:=R11.below hAD20
   have B20:=B11.trans (hAD20.mono B11.size)
   obtain⟨cP0_20,cP1_20,cP2_20,fP0_20,fP1_20,fP2_20,sP_20⟩:=P20.open3
   obtain⟨cQ0_20,cQ1_20,cQ2_20,fQ0_20,fQ1_20,fQ2_20,sQ_20⟩:=Q20.open3
   obtain⟨cR0_20,cR1_20,cR2_20,fR0_20,fR1_20,fR2_20,sR_20⟩:=R20.open3
   have p20:=p11.below hAD20;have q20:=q11.below hAD20;have T20:=T11.below hAD20
   go_region_held3 (fun w'=>w'.cell? ⟨w.heap.size,0,none⟩=some (.bool n1)∧w'.cell? ⟨w.heap.size,1,none⟩=some (.slice ax1 (digs BB A1).length kx1)∧w'.cell? ⟨w.heap.size,2,none⟩=some (.int .i64 F1)) (refine cells3 ?_<;>(repeat' (first|with_reducible assumption|with_reducible exact blk_new|with_reducible exact blk_a2|with_reducible exact Below.refl _ _|with_reducible refine Blk.set3z ?_ _ _ _|with_reducible refine Blk.other3 ?_ ?_ _ _ _|with_reducible refine Blk.below ?_ hb21|with_reducible refine Blk.below ?_ hb22|with_reducible refine Blk.next ?_|with_reducible refine Blk.dr ?_|with_reducible refine bel_dr ?_|with_reducible refine bel_set3 ?_ ?_ _ _ _|with_reducible refine bel_trans ?_ hb21|with_reducible refine bel_trans ?_ hb22|with_reducible refine bel_next ?_|with_reducible refine RdD.set3z ?_ ?_ _ _ _|with_reducible refine RdN.set3z ?_ ?_ _ _ _|with_reducible refine RdD.below ?_ hb21|with_reducible refine RdD.below ?_ hb22|with_reducible refine RdN.below ?_ hb21|with_reducible refine RdN.below ?_ hb22|with_reducible refine RdD.below ?_ (below_alloc _ _)|with_reducible refine RdN.below ?_ (below_alloc _ _)|((try simp only[size_alloc,size_drew]);omega))))
   (first
     |(go_at_call 108;(with_reducible refine(AD.out _ _ _ p20 q20).mono ?_);rintro e w21 ⟨vs21,rfl,s21,hb21⟩;have B21:=B20.trans (hb21.mono B20.size);have p21:=p20.below hb21;have q21:=q20.below hb21;have T21:=T20.below hb21;have P21:=P20.below hb21;have R21:=R20.below hb21;clear p20 q20 T20 P20 R20;obtain⟨cP0_21,cP1_21,cP2_21,fP0_21,fP1_21,fP2_21,sP_21⟩:=P21.open3;obtain⟨cR0_21,cR1_21,cR2_21,fR0_21,fR1_21,fR2_21,sR_21⟩:=R21.open3;obtain⟨as21,ks21,rfl,-⟩:=s21.view;try simp only[List.length_nil]at s21)
     |(go_at_call 47;(with_reducible refine(MK.out _ _ s21 T21).mono ?_);rintro e w22 ⟨vz22,rfl,z22,hb22⟩;have B22:=B21.trans (hb22.mono B21.size);have p22:=p21.below hb22;have q22:=q21.below hb22;have T22:=T21.below hb22;have P22:=P21.below hb22;have R22:=R21.below hb22;have s22:=s21.below hb22;clear p21 q21 T21 P21 R21 s21;clear cP0_21 cP1_21 cP2_21 fP0_21 fP1_21 fP2_21 sP_21;obtain⟨cP0_22,cP1_22,cP2_22,fP0_22,fP1_22,fP2_22,sP_22⟩:=P22.open3;clear cR0_21 cR1_21 cR2_21 fR0_21 fR1_21 fR2_21 sR_21;obtain⟨cR0_22,cR1_22,cR2_22,fR0_22,fR1_22,fR2_22,sR_22⟩:=R22.open3;obtain⟨az22,kz22,rfl,-⟩:=z22.view;try simp only[List.length_nil]at z22)
     |fail)
   all_goals
    go_wp2_with fail
    obtain⟨q0,q1,q2,-⟩:=(R22.set3 (.bool n3) (.slice az22 (digs BB M3).length kz22) (.int .i64 E3)).open3
    refine bodyPost_ret (v:= .tuple #[.agg #[.bool n3,.slice az22 (digs BB M3).length kz22,.int .i64 E3],.int .i64 k3]) ?_ rfl ?_
    ·simp[results,Tryz.results68,go_sem,q0,q1,q2]
    ·exact⟨_,rfl,z22.set3 R22 dcells _ _ _,below_set3b B22 (by omega) _ _ _⟩
  ·have hbb:(n1==n2)=false:=beq_false_of_ne hn
   by_cases hle:Y≤X
   ·have hadd:addR n1 n2 X Y=(n1,X-Y):=by unfold addR;rw[if_neg hn,if_pos hle]
    rw[hadd]at hq
    simp only at hq
    have hcd:decide (cmpN X Y<0)=false:=by
     rcases Nat.lt_or_ge Y X with h|h
     ·rw[cmpN_gt h];rfl
     ·rw[show X=Y by omega,cmpN_eq];rfl
    have bS:bitN (X-Y)≤65536:=Nat.le_trans (bitN_mono (Nat.sub_le _ _)) bX
    have SB:=Lib.hid (fun w v u (h:Num w v X) (k:Num w u Y)=>sub_n (C:=X-Y) h k (by omega))
    have MK:=Lib.hid (fun w v (h:RdN w v (digs BB (X-Y))) (hT:Tab w)=>Make_q (h.num (by omega)) hT (by omega) (by omega) hq)
    clear hq hadd
    go_wp2_with
     (first
       |(go_at_call 102;(with_reducible refine(CP.out _ _ _ p11 q11).mono ?_);rintro e w12 ⟨rfl,hb12⟩;have B12:=B11.trans (hb12.mono B11.size);have p12:=p11.below hb12;have q12:=q11.below hb12;have T12:=T11.below hb12;have P12:=P11.below hb12;have Q12:=Q11.below hb12;have R12:=R11.below hb12;clear p11 q11 T11 P11 Q11 R11;obtain⟨cP0_12,cP1_12,cP2_12,fP0_12,fP1_12,fP2_12,sP_12⟩:=P12.open3;obtain⟨cQ0_12,cQ1_12,cQ2_12,fQ0_12,fQ1_12,fQ2_12,sQ_12⟩:=Q12.open3;obtain⟨cR0_12,cR1_12,cR2_12,fR0_12,fR1_12,fR2_12,sR_12⟩:=R12.open3)
       |(go_at_call 109;(with_reducible refine(SB.out _ _ _ p12 q12).mono ?_);rintro e w13 ⟨vs13,rfl,s13,hb13⟩;have B13:=B12.trans (hb13.mono B12.size);have p13:=p12.below hb13;have q13:=q12.below hb13;have T13:=T12.below hb13;have P13:=P12.below hb13;have Q13:=Q12.below hb13;have R13:=R12.below hb13;clear p12 q12 T12 P12 Q12 R12;clear cP0_12 cP1_12 cP2_12 fP0_12 fP1_12 fP2_12 sP_12;obtain⟨cP0_13,cP1_13,cP2_13,fP0_13,fP1_13,fP2_13,sP_13⟩:=P13.open3;clear cQ0_12 cQ1_12 cQ2_12 fQ0_12 fQ1_12 fQ2_12 sQ_12;obtain⟨cQ0_13,cQ1_13,cQ2_13,fQ0_13,fQ1_13,fQ2_13,sQ_13⟩:=Q13.open3;clear cR0_12 cR1_12 cR2_12 fR0_12 fR1_12 fR2_12 sR_12;obtain⟨cR0_13,cR1_13,cR2_13,fR0_13,fR1_13,fR2_13,sR_13⟩:=R13.open3;obtain⟨as13,ks13,rfl,-⟩:=s13.view;try simp only[List.length_nil]at s13)
       |(go_at_call 47;(with_reducible refine(MK.out _ _ s13 T13).mono ?_);rintro e w14 ⟨vz14,rfl,z14,hb14⟩;have B14:=B13.trans (hb14.mono B13.size);have p14:=p13.below hb14;have q14:=q13.below hb14;have T14:=T13.below hb14;have P14:=P13.below hb14;have Q14:=Q13.below hb14;have R14:=R13.below hb14;have s14:=s13.below hb14;clear p13 q13 T13 P13 Q13 R13 s13;clear cP0_13 cP1_13 cP2_13 fP0_13 fP1_13 fP2_13 sP_13;obtain⟨cP0_14,cP1_14,cP2_14,fP0_14,fP1_14,fP2_14,sP_14⟩:=P14.open3;clear cQ0_13 cQ1_13 cQ2_13 fQ0_13 fQ1_13 fQ2_13 sQ_13;obtain⟨cQ0_14,cQ1_14,cQ2_14,fQ0_14,fQ1_14,fQ2_14,sQ_14⟩:=Q14.open3;clear cR0_13 cR1_13 cR2_13 fR0_13 fR1_13 fR2_13 sR_13;obtain⟨cR0_14,cR1_14,cR2_14,fR0_14,fR1_14,fR2_14,sR_14⟩:=R14.open3;obtain⟨az14,kz14,rfl,-⟩:=z14.view;try simp only[List.length_nil]at z14)
       |fail)
    obtain⟨q0,q1,q2,-⟩:=(R14.set3 (.bool n3) (.slice az14 (digs BB M3).length kz14) (.int .i64 E3)).open3
    refine bodyPost_ret (v:= .tuple #[.agg #[.bool n3,.slice az14 (digs BB M3).length kz14,.int .i64 E3],.int .i64 k3]) ?_ rfl ?_
    ·simp[results,Tryz.results68,go_sem,q0,q1,q2]
    ·exact⟨_,rfl,z14.set3 R14 dcells _ _ _,below_set3b B14 (by omega) _ _ _⟩
   ·have hadd:addR n1 n2 X Y=(n2,Y-X):=by unfold addR;rw[if_neg hn,if_neg hle]
    rw[hadd]at hq
    simp only at hq
    have hcd:decide (cmpN X Y<0)=true:=by rw[cmpN_lt (by omega)];rfl
    have bS:bitN (Y-X)≤65536:=Nat.le_trans (bitN_mono (Nat.sub_le _ _)) bY
    have SB:=Lib.hid (fun w v u (h:Num w v Y) (k:Num w u X)=>sub_n (C:=Y-X) h k (by omega))
    have MK:=Lib.hid (fun w v (h:RdN w v (digs BB (Y-X))) (hT:Tab w)=>Make_q (h.num (by omega)) hT (by omega) (by omega) hq)
    clear hq hadd
    go_upto_region 21 with
     (first
       |(go_at_call 102;(with_reducible refine(CP.out _ _ _ p11 q11).mono ?_);rintro e w12 ⟨rfl,hb12⟩;have B12:=B11.trans (hb12.mono B11.size);have p12:=p11.below hb12;have q12:=q11.below hb12;have T12:=T11.below hb12;have P12:=P11.below hb12;have Q12:=Q11.below hb12;have R12:=R11.below hb12;clear p11 q11 T11 P11 Q11 R11;obtain⟨cP0_12,cP1_12,cP2_12,fP0_12,fP1_12,fP2_12,sP_12⟩:=P12.open3;obtain⟨cQ0_12,cQ1_12,cQ2_12,fQ0_12,fQ1_12,fQ2_12,sQ_12⟩:=Q12.open3;obtain⟨cR0_12,cR1_12,cR2_12,fR0_12,fR1_12,fR2_12,sR_12⟩:=R12.open3)
       |fail)
    have P13:=P12.set1 (.bool n2)
    have R13:=R12.other1 (b':=w.heap.size) (j:=0) (by omega) (.bool n2)
    have p13:=p12.set1 P12 dcells (.bool n2)
    have q13:=q12.set1 P12 dcells (.bool n2)
    have B13:=below_set (j:=0) B12 (Nat.le_refl w.heap.size) (.bool n2)
    clear cP0_12 cP1_12 cP2_12 fP0_12 fP1_12 fP2_12 sP_12 cQ0_12 cQ1_12 cQ2_12 fQ0_12 fQ1_12 fQ2_12 sQ_12 cR0_12 cR1_12 cR2_12 fR0_12 fR1_12 fR2_12 sR_12 P12 Q12 R12 p12 q12 B12 T12 hb12
    generalize w12.setCell ⟨w.heap.size,0,none⟩ (.bool n2)=w13 at*
    have T13:=hT.below B13
    obtain⟨cP0_13,cP1_13,cP2_13,fP0_13,fP1_13,fP2_13,sP_13⟩:=P13.open3
    obtain⟨cR0_13,cR1_13,cR2_13,fR0_13,fR1_13,fR2_13,sR_13⟩:=R13.open3
    go_wp2_with
     (first
       |(go_at_call 109;(with_reducible refine(SB.out _ _ _ q13 p13).mono ?_);rintro e w14 ⟨vs14,rfl,s14,hb14⟩;have B14:=B13.trans (hb14.mono B13.size);have p14:=p13.below hb14;have q14:=q13.below hb14;have T14:=T13.below hb14;have P14:=P13.below hb14;have R14:=R13.below hb14;clear p13 q13 T13 P13 R13;obtain⟨cP0_14,cP1_14,cP2_14,fP0_14,fP1_14,fP2_14,sP_14⟩:=P14.open3;obtain⟨cR0_14,cR1_14,cR2_14,fR0_14,fR1_14,fR2_14,sR_14⟩:=R14.open3;obtain⟨as14,ks14,rfl,-⟩:=s14.view;try simp only[List.length_nil]at s14)
       |(go_at_call 47;(with_reducible refine(MK.out _ _ s14 T14).mono ?_);rintro e w15 ⟨vz15,rfl,z15,hb15⟩;have B15:=B14.trans (hb15.mono B14.size);have p15:=p14.below hb15;have q15:=q14.below hb15;have T15:=T14.below hb15;have P15:=P14.below hb15;have R15:=R14.below hb15;have s15:=s14.below hb15;clear p14 q14 T14 P14 R14 s14;clear cP0_14 cP1_14 cP2_14 fP0_14 fP1_14 fP2_14 sP_14;obtain⟨cP0_15,cP1_15,cP2_15,fP0_15,fP1_15,fP2_15,sP_15⟩:=P15.open3;clear cR0_14 cR1_14 cR2_14 fR0_14 fR1_14 fR2_14 sR_14;obtain⟨cR0_15,cR1_15,cR2_15,fR0_15,fR1_15,fR2_15,sR_15⟩:=R15.open3;obtain⟨az15,kz15,rfl,-⟩:=z15.view;try simp only[List.length_nil]at z15)
       |fail)
    obtain⟨q0,q1,q2,-⟩:=(R15.set3 (.bool n3) (.slice az15 (digs BB M3).length kz15) (.int .i64 E3)).open3
    refine bodyPost_ret (v:= .tuple #[.agg #[.bool n3,.slice az15 (digs BB M3).length kz15,.int .i64 E3],.int .i64 k3]) ?_ rfl ?_
    ·simp[results,Tryz.results68,go_sem,q0,q1,q2]
    ·exact⟨_,rfl,z15.set3 R15 dcells _ _ _,below_set3b B15 (by omega) _ _ _⟩
end Go.Proofs.YtffaefjkpipjnaaGreatDoor
