/- exps.Split by its contract. Conditions: the ends may be split; math/bits' table stands in its variable. -/
import Derived.Test.YtffaefjkpipjnaaGreatDoorPkC27
import Derived.Test.YtffaefjkpipjnaaGreatDoorPkC19
import Derived.Test.YtffaefjkpipjnaaGreatDoorPkC28
import Derived.Deep.RegionHeld3
import Derived.Deep.CutBlock
import Derived.BigQuiet
import Derived.Test.YtffaefjkpipjnaaGreatDoorPkC21
namespace Go.Proofs.YtffaefjkpipjnaaGreatDoor
set_option linter.unusedVariables false
set_option linter.unusedSimpArgs false
set_option maxRecDepth 100000
open Go.RowKit Go.ChangeShapes Go.WideShapes
theorem Blk.set2z {w:World}{b:Nat}(h:Blk w b #[.bool false,.slice none 0 0]) (x' y':Value):Blk ((w.setCell ⟨b,0,none⟩ x').setCell ⟨b,1,none⟩ y') b #[x',y']:=h.set2 _ _
theorem bel_set2 {D W:World}(h:Below D.heap.size D W) {b:Nat}(hb:D.heap.size≤b) (x y:Value):Below D.heap.size D ((W.setCell ⟨b,0,none⟩ x).setCell ⟨b,1,none⟩ y):=below_set (below_set h hb x) hb y
theorem RdN.set2z {w:World}{v:Value}{l:List Nat}{b:Nat}(h:RdN w v l) (hB:Blk w b #[.bool false,.slice none 0 0]) (x y:Value):RdN ((w.setCell ⟨b,0,none⟩ x).setCell ⟨b,1,none⟩ y) v l:=h.set2 hB bcells2 x y
theorem cells2x2 {w:World}{b b':Nat}{x y x' y':Value}(h:Blk w b #[x,y]) (k:Blk w b' #[x',y']):(w.cell? ⟨b,0,none⟩=some x∧w.cell? ⟨b,1,none⟩=some y)∧w.cell? ⟨b',0,none⟩=some x'∧w.cell? ⟨b',1,none⟩=some y':=⟨⟨h.open2.1,h.open2.2.1⟩,k.open2.1,k.open2.2.1⟩
theorem bitN_two_pow (m:Nat):bitN (2^m)=m+1:=by
 have h1:=bitN_shift (m:=1) (by decide) m
 rw[Nat.one_mul,bitN_one]at h1
 omega
theorem split_bits {n1 n2:Bool}{U1 U2 C D B s N:Nat}(hB:splitB (sg n1 U1) (sg n2 U2) C D=(B:Int)) (hq:splitQ (sg n1 U1) C D≤65536) (b2:U2≤2^(12+s)) (hs:12+s<N) (hD:bitN D+16<N):bitN B≤N+1:=by
 have h1:B≤U2+splitQ (sg n1 U1) C D*D:=by
  unfold splitB at hB
  generalize splitQ (sg n1 U1) C D*D=y at*
  generalize splitQ (sg n1 U1) C D*C=z at*
  have h3:sg n2 U2≤(U2:Int):=by unfold sg;split<;>omega
  split at hB<;>omega
 have h2:U2<2^N:=Nat.lt_of_le_of_lt b2 (Nat.pow_lt_pow_right (by decide) hs)
 have h3:splitQ (sg n1 U1) C D*D<2^N:=by
  have h4:=bitN_lt D
  have h5:splitQ (sg n1 U1) C D*D≤65536*D:=Nat.mul_le_mul_right _ hq
  have h6:65536*D<2^16*2^bitN D:=Nat.mul_lt_mul_of_pos_left h4 (by decide)
  rw[←Nat.pow_add]at h6
  exact Nat.lt_of_le_of_lt h5 (Nat.lt_trans h6 (Nat.pow_lt_pow_right (by decide) (by omega)))
 refine bitN_le.2 ?_
 rw[Nat.pow_succ]
 generalize 2^N=p at*
 omega
theorem ne_of_blk {w:World}{b b':Nat}{c c':Array Value}(_:Blk w b c) (_:Blk w b' c') (h:b≠b'):b≠b':=h
theorem rightB_parts {M:Nat}{E:Int}(h:rightB M E=true):fitsE E=true∧bitN M≤20000∧-20000≤E∧(M=0∨(bitN M:Int)-1+E<12):=by
 unfold rightB topD at h
 simp only[Bool.and_eq_true,Bool.or_eq_true,decide_eq_true_eq]at h
 exact⟨h.1,h.2.1,h.2.2.1,h.2.2.2⟩
def SplitR (w:World) (l h:Int) (s:Nat) (e:Ending) (w':World):Prop:=
 ∃L H,(AtOk 1 3 s L H∧AtDet 1 3 s L H)∧
  ((∃A B va vb,e= .returned (.tuple #[.int .i64 (splitK l (L+L) (H+H)),va,vb,.int .i64 0])∧splitA l (L+L) (H+H)=((A:Nat):Int)∧splitB l h (L+L) (H+H)=((B:Nat):Int)∧B≤2^s∧RdN w' va (digs BB A)∧RdN w' vb (digs BB B)∧Below w.heap.size w w')∨
   (((2^s:Nat):Int)<splitB l h (L+L) (H+H)∧e= .returned (.tuple #[.int .i64 0,.slice none 0 0,.slice none 0 0,.int .i64 1])∧Below w.heap.size w w'))
set_option maxRecDepth 100000 in
set_option maxHeartbeats 8000000 in
theorem Split_any {w:World}{v1 v2:Value}{b1 b2 n1 n2:Bool}{A1 A2 M1 M2 s:Nat}{e1 e2 E1 E2:Int}(h:Num w v1 A1) (k:Num w v2 A2) (hT:Tab w) (r1: -9223372036854775808≤e1) (r2:e1≤9223372036854775807) (r3: -9223372036854775808≤e2) (r4:e2≤9223372036854775807)
 (q1:bareD ⟨b1,A1,e1⟩=⟨n1,M1,E1⟩) (q2:bareD ⟨b2,A2,e2⟩=⟨n2,M2,E2⟩) (g1:rightB M1 E1=true) (g2:rightB M2 E2=true) (sA1:bitN A1≤400000) (sA2:bitN A2≤400000) (hle:qv ⟨n1,M1,E1⟩≤qv ⟨n2,M2,E2⟩) (s1:8≤s) (s2:s≤8900):
 Calls Tryz.prog 60 #[.agg #[.bool b1,v1,.int .i64 e1,.bool b2,v2,.int .i64 e2],.int .i64 (s:Int)] w (SplitR w (floorU ⟨n1,M1,E1⟩ s) (ceilU ⟨n2,M2,E2⟩ s) s):=by
 obtain⟨a1,l1,k1,rfl⟩:=h.slice
 obtain⟨a2,l2,k2,rfl⟩:=k.slice
 obtain⟨ff1,sM1,rE1,tp1⟩:=rightB_parts g1
 obtain⟨ff2,sM2,rE2,tp2⟩:=rightB_parts g2
 have up1:E1≤20000:=by
  rcases tp1 with h0|h0
  ·have:=(bareD_zeroM q1 h0).2;omega
  ·omega
 have up2:E2≤20000:=by
  rcases tp2 with h0|h0
  ·have:=(bareD_zeroM q2 h0).2;omega
  ·omega
 obtain⟨c,hc⟩:∃c,cmpD ⟨n1,M1,E1⟩ ⟨n2,M2,E2⟩=c:=⟨_,rfl⟩
 have hc0:c≤0:=by rw[←hc];exact cmpD_le hle
 have HR1:=Lib.hid (fun w v (h:Num w v A1) (hT:Tab w)=>right_n h hT r1 r2 q1 (by omega) g1)
 have HR2:=Lib.hid (fun w v (h:Num w v A2) (hT:Tab w)=>right_n h hT r3 r4 q2 (by omega) g2)
 have HC:=Lib.hid (fun w v u (h:Num w v A1) (k:Num w u A2) (hT:Tab w)=>Cmp_n h k hT r1 r2 r3 r4 q1 q2 sA1 sA2 hc)
 have HL2:=Lib.hid (fun w (hT:Tab w)=>ln2_det (w:=w) (s:=s) hT s1 (by omega))
 obtain⟨U1,hU1⟩:∃U,unitsN M1 E1 s n1=U:=⟨_,rfl⟩
 obtain⟨U2,hU2⟩:∃U,unitsN M2 E2 s (!n2)=U:=⟨_,rfl⟩
 have HFL:=Lib.hid (fun w v (h:Num w v A1) (hT:Tab w)=>floor_n h hT r1 r2 q1 sM1 rE1 up1 s2 hU1)
 have HCE:=Lib.hid (fun w v (h:Num w v A2) (hT:Tab w)=>ceil_n h hT r3 r4 q2 sM2 rE2 up2 s2 hU2)
 have bU1:U1≤2^(12+s):=by rw[←hU1];exact units_le tp1
 have bU2:U2≤2^(12+s):=by rw[←hU2];exact units_le tp2
 have hlh:floorU ⟨n1,M1,E1⟩ s≤ceilU ⟨n2,M2,E2⟩ s:=floor_ceil hle
 have hl:floorU ⟨n1,M1,E1⟩ s=sg n1 U1:=by unfold floorU;dsimp only;rw[hU1]
 have hh:ceilU ⟨n2,M2,E2⟩ s=sg n2 U2:=by unfold ceilU;dsimp only;rw[hU2]
 rw[hl,hh]at hlh⊢
 have hn1:n1=true→U1≠0:=by
  intro hn h0
  have hM:M1≠0:=fun hm=>by have:=(bareD_zeroM q1 hm).1;rw[this]at hn;cases hn
  have h5:=(units_hi M1 E1 s).1
  rw[hn]at hU1
  rw[hU1,h0]at h5
  have h6:0<(M1:Rat)*pw (E1+(s:Int)):=Rat.mul_pos (rq_nat_pos (Nat.pos_of_ne_zero hM)) (pw_pos _)
  have h7:((0:Nat):Rat)=0:=rfl
  rw[h7]at h5
  grind
 have d1:decide ((s:Int)<8)=false:=decide_eq_false (by omega)
 have d2:decide ((8900:Int)<(s:Int))=false:=decide_eq_false (by omega)
 have d1':decide (s<8)=false:=decide_eq_false (by omega)
 have d2':decide (8900<s)=false:=decide_eq_false (by omega)
 have d3:decide (0<c)=false:=decide_eq_false (by omega)
 have P:=blk_new (w:=w) (T:=70) (c:= #[.bool b1,.slice a1 l1 k1,.int .i64 e1,.bool b2,.slice a2 l2 k2,.int .i64 e2])
 have B0:=below_alloc w (.cells #[.bool b1,.slice a1 l1 k1,.int .i64 e1,.bool b2,.slice a2 l2 k2,.int .i64 e2] 70 (0,0))
 have m0:=h.below B0;have g0:=k.below B0;have T0:=hT.below B0
 clear h k hT q1 q2 ff1 ff2 sM1 sM2 rE1 rE2 tp1 tp2 up1 up2 hc hc0 hU1 hU2 hl hh hle g1 g2 r1 r2 r3 r4
 go_enter Tryz.func60,Tryz.ntmps60
 go_upto_region 1 with fail
 generalize w.alloc (.cells #[.bool b1,.slice a1 l1 k1,.int .i64 e1,.bool b2,.slice a2 l2 k2,.int .i64 e2] 70 (0,0))=w0 at*
 obtain⟨cP0,cP1,cP2,cP3,cP4,cP5,fP0,fP1,fP2,fP3,fP4,fP5,sP⟩:=P.open6
 go_upto_region 4 with
  (first
    |(go_at_call 91;(with_reducible refine(HR1.out _ _ m0 T0).mono ?_);rintro e w1 ⟨rfl,hb1⟩;have B1:=B0.trans (hb1.mono B0.size);have m1:=m0.below hb1;have g1:=g0.below hb1;have T1:=T0.below hb1;have P1:=P.below hb1;clear m0 g0 T0 P;obtain⟨cP0_1,cP1_1,cP2_1,cP3_1,cP4_1,cP5_1,fP0_1,fP1_1,fP2_1,fP3_1,fP4_1,fP5_1,sP_1⟩:=P1.open6)
    |(go_at_call 91;(with_reducible refine(HR2.out _ _ g1 T1).mono ?_);rintro e w2 ⟨rfl,hb2⟩;have B2:=B1.trans (hb2.mono B1.size);have m2:=m1.below hb2;have g2:=g1.below hb2;have T2:=T1.below hb2;have P2:=P1.below hb2;clear m1 g1 T1 P1;clear cP0_1 cP1_1 cP2_1 cP3_1 cP4_1 cP5_1 fP0_1 fP1_1 fP2_1 fP3_1 fP4_1 fP5_1 sP_1;obtain⟨cP0_2,cP1_2,cP2_2,cP3_2,cP4_2,cP5_2,fP0_2,fP1_2,fP2_2,fP3_2,fP4_2,fP5_2,sP_2⟩:=P2.open6)
    |(go_at_call 50;(with_reducible refine(HC.out _ _ _ m2 g2 T2).mono ?_);rintro e w3 ⟨rfl,hb3⟩;have B3:=B2.trans (hb3.mono B2.size);have m3:=m2.below hb3;have g3:=g2.below hb3;have T3:=T2.below hb3;have P3:=P2.below hb3;clear m2 g2 T2 P2;clear cP0_2 cP1_2 cP2_2 cP3_2 cP4_2 cP5_2 fP0_2 fP1_2 fP2_2 fP3_2 fP4_2 fP5_2 sP_2;obtain⟨cP0_3,cP1_3,cP2_3,cP3_3,cP4_3,cP5_3,fP0_3,fP1_3,fP2_3,fP3_3,fP4_3,fP5_3,sP_3⟩:=P3.open6)
    |(go_at_call 66;(with_reducible refine(HL2.out _ T3).mono ?_);rintro e w4 ⟨vc,vd,L,H,rfl,c4,d4,ok,hb4⟩;have B4:=B3.trans (hb4.mono B3.size);have m4:=m3.below hb4;have g4:=g3.below hb4;have T4:=T3.below hb4;have P4:=P3.below hb4;clear m3 g3 T3 P3;clear cP0_3 cP1_3 cP2_3 cP3_3 cP4_3 cP5_3 fP0_3 fP1_3 fP2_3 fP3_3 fP4_3 fP5_3 sP_3;obtain⟨cP0_4,cP1_4,cP2_4,cP3_4,cP4_4,cP5_4,fP0_4,fP1_4,fP2_4,fP3_4,fP4_4,fP5_4,sP_4⟩:=P4.open6;obtain⟨ac4,kc4,rfl,-⟩:=c4.view;(try simp only[List.length_nil]at c4);obtain⟨ad4,kd4,rfl,-⟩:=d4.view;try simp only[List.length_nil]at d4)
    |fail)
 clear cP0 cP1 cP2 cP3 cP4 cP5 fP0 fP1 fP2 fP3 fP4 fP5 sP cP0_4 cP1_4 cP2_4 cP3_4 cP4_4 cP5_4 fP0_4 fP1_4 fP2_4 fP3_4 fP4_4 fP5_4 HR1 HR2 HC HL2
 go_cut [11,12] (fun v11 v12 w'=>∃bx ax kx bz az kz,v11= .pointer (some ⟨bx,0,none⟩)∧v12= .pointer (some ⟨bz,0,none⟩)∧Blk w' bx #[.bool n1,.slice ax (digs BB U1).length kx]∧RdN w' (.slice ax (digs BB U1).length kx) (digs BB U1)∧Blk w' bz #[.bool n2,.slice az (digs BB U2).length kz]∧RdN w' (.slice az (digs BB U2).length kz) (digs BB U2)∧Below w4.heap.size w4 w'∧bx≠bz∧w4.heap.size≤bx∧w4.heap.size≤bz)
 case first=>
  as_aux_lemma=>
  go_region_held3 (fun w'=>w'.cell? ⟨w.heap.size,0,none⟩=some (.bool b1)∧w'.cell? ⟨w.heap.size,1,none⟩=some (.slice a1 l1 k1)∧w'.cell? ⟨w.heap.size,2,none⟩=some (.int .i64 e1)∧w'.cell? ⟨w.heap.size,3,none⟩=some (.bool b2)∧w'.cell? ⟨w.heap.size,4,none⟩=some (.slice a2 l2 k2)∧w'.cell? ⟨w.heap.size,5,none⟩=some (.int .i64 e2)) (refine cells46 ?_<;>(repeat' (first|with_reducible assumption|with_reducible exact blk_new|with_reducible exact blk_a2|with_reducible exact Below.refl _ _|with_reducible refine Blk.set2z ?_ _ _|with_reducible refine Blk.other2 ?_ ?_ _ _|with_reducible refine Blk.below ?_ hbx|with_reducible refine Blk.below ?_ hbz|with_reducible refine Blk.next ?_|with_reducible refine Blk.dr ?_|with_reducible refine bel_dr ?_|with_reducible refine bel_set2 ?_ ?_ _ _|with_reducible refine bel_trans ?_ hbx|with_reducible refine bel_trans ?_ hbz|with_reducible refine bel_next ?_|with_reducible refine RdN.set2z ?_ ?_ _ _|with_reducible refine RdN.below ?_ hbx|with_reducible refine RdN.below ?_ hbz|with_reducible refine RdN.below ?_ (below_alloc _ _)|((try simp only[size_alloc,size_drew]);omega))))
   (first
     |(go_at_call 92;(with_reducible refine(HFL.out _ _ (Num.below m4 ?hbel) (Tab.below T4 ?hbel2)).mono ?_);(case hbel=>(repeat' (first|with_reducible assumption|with_reducible exact blk_new|with_reducible exact blk_a2|with_reducible exact Below.refl _ _|with_reducible refine Blk.set2z ?_ _ _|with_reducible refine Blk.other2 ?_ ?_ _ _|with_reducible refine Blk.next ?_|with_reducible refine Blk.dr ?_|with_reducible refine bel_dr ?_|with_reducible refine bel_set2 ?_ ?_ _ _|with_reducible refine bel_next ?_|with_reducible refine RdN.set2z ?_ ?_ _ _|with_reducible refine RdN.below ?_ (below_alloc _ _)|((try simp only[size_alloc,size_drew]);omega))));(case hbel2=>(repeat' (first|with_reducible assumption|with_reducible exact blk_new|with_reducible exact blk_a2|with_reducible exact Below.refl _ _|with_reducible refine Blk.set2z ?_ _ _|with_reducible refine Blk.other2 ?_ ?_ _ _|with_reducible refine Blk.next ?_|with_reducible refine Blk.dr ?_|with_reducible refine bel_dr ?_|with_reducible refine bel_set2 ?_ ?_ _ _|with_reducible refine bel_next ?_|with_reducible refine RdN.set2z ?_ ?_ _ _|with_reducible refine RdN.below ?_ (below_alloc _ _)|((try simp only[size_alloc,size_drew]);omega))));rintro e wx ⟨vx,rfl,zx,hbx⟩;have lx:=hbx.size;(try simp only[size_alloc,size_drew]at lx);obtain⟨ax,kx,rfl,-⟩:=zx.view;
        (first
          |(have N2:Blk wx (w4.heap.size+1) #[.bool false,.slice none 0 0]:=(Blk.dr blk_a2).below hbx;have N1:Blk wx w4.heap.size #[.bool false,.slice none 0 0]:=(Blk.dr blk_a1).below hbx;have n1:=N1.1)
          |(have N1:Blk wx w4.heap.size #[.bool false,.slice none 0 0]:=(Blk.dr blk_new).below hbx;have n1:=N1.1)
          |skip))
     |(go_at_call 93;(with_reducible refine(HCE.out _ _ (Num.below g4 ?hbel) (Tab.below T4 ?hbel2)).mono ?_);(case hbel=>(repeat' (first|with_reducible assumption|with_reducible exact blk_new|with_reducible exact blk_a2|with_reducible exact Below.refl _ _|with_reducible refine Blk.set2z ?_ _ _|with_reducible refine Blk.other2 ?_ ?_ _ _|with_reducible refine Blk.below ?_ hbx|with_reducible refine Blk.next ?_|with_reducible refine Blk.dr ?_|with_reducible refine bel_dr ?_|with_reducible refine bel_set2 ?_ ?_ _ _|with_reducible refine bel_trans ?_ hbx|with_reducible refine bel_next ?_|with_reducible refine RdN.set2z ?_ ?_ _ _|with_reducible refine RdN.below ?_ hbx|with_reducible refine RdN.below ?_ (below_alloc _ _)|((try simp only[size_alloc,size_drew]);omega))));(case hbel2=>(repeat' (first|with_reducible assumption|with_reducible exact blk_new|with_reducible exact blk_a2|with_reducible exact Below.refl _ _|with_reducible refine Blk.set2z ?_ _ _|with_reducible refine Blk.other2 ?_ ?_ _ _|with_reducible refine Blk.below ?_ hbx|with_reducible refine Blk.next ?_|with_reducible refine Blk.dr ?_|with_reducible refine bel_dr ?_|with_reducible refine bel_set2 ?_ ?_ _ _|with_reducible refine bel_trans ?_ hbx|with_reducible refine bel_next ?_|with_reducible refine RdN.set2z ?_ ?_ _ _|with_reducible refine RdN.below ?_ hbx|with_reducible refine RdN.below ?_ (below_alloc _ _)|((try simp only[size_alloc,size_drew]);omega))));rintro e wz ⟨vz,rfl,zz,hbz⟩;have lz:=hbz.size;(try simp only[size_alloc,size_drew]at lz);obtain⟨az,kz,rfl,-⟩:=zz.view;
        (first
          |(have O1:=N1.below hbz;have O2:=N2.below hbz)
          |(have O1:=N1.next.below hbz;have O2:Blk wz wx.heap.size #[.bool false,.slice none 0 0]:=blk_new.below hbz)
          |(have O1:=N1.below hbz)
          |(have O1:Blk wz wx.heap.size #[.bool false,.slice none 0 0]:=blk_a1.below hbz;have O2:Blk wz (wx.heap.size+1) #[.bool false,.slice none 0 0]:=blk_a2.below hbz)
          |(have O1:Blk wz wx.heap.size #[.bool false,.slice none 0 0]:=blk_new.below hbz)
          |skip);
        (first
          |(have i1:=O1.open2;have i2:=O2.open2;have i3:=fun x y=>(O1.other2 (show _≠_ by omega) x y).open2 (b':=0);skip)
          |(have i1:=O1.open2;have i2:=O2.open2;have i3:=O1.other2 (b':=_) (ne_of_blk O1 O2 (by omega));have i4:=fun x y=>(i3 x y).open2;have j3:=O2.other2 (b':=_) (ne_of_blk O2 O1 (by omega));have i5:=fun x y=>(j3 x y).open2;clear i3 j3)
          |(have i1:=fun o=>(O1.next (o:=o)).open2;have i2:=fun x y=>(Blk.other2 (blk_new (w:=wz) (c:= #[.bool false,.slice none 0 0]) (T:=145)) (Nat.ne_of_gt O1.1) x y).open2)
          |(have i1:=fun o=>(blk_a1 (w:=wz) (c:= #[.bool false,.slice none 0 0]) (T:=145) (o:=o)).open2;have i2:=fun o=>(blk_a2 (w:=wz) (c:= #[.bool false,.slice none 0 0]) (T:=145) (o:=o)).open2;have i3:=fun x y=>(Blk.other2 (blk_a2 (w:=wz) (c:= #[.bool false,.slice none 0 0]) (T:=145) (o:=(.cells #[.bool false,.slice none 0 0] 145 (0,0)))) (Nat.succ_ne_self wz.heap.size) x y).open2)))
     |fail)
  all_goals
   go_wp2_with fail
   go_meet
   (try have o1:=O1.1)
   (try have o2:=O2.1)
   refine⟨_,ax,kx,_,az,kz,rfl,rfl,?_,?_,?_,?_,?_,?_,?_,?_⟩<;>(repeat' (first|with_reducible assumption|with_reducible exact blk_new|with_reducible exact blk_a2|with_reducible exact Below.refl _ _|with_reducible refine Blk.set2z ?_ _ _|with_reducible refine Blk.other2 ?_ ?_ _ _|with_reducible refine Blk.below ?_ hbx|with_reducible refine Blk.below ?_ hbz|with_reducible refine Blk.next ?_|with_reducible refine Blk.dr ?_|with_reducible refine bel_dr ?_|with_reducible refine bel_set2 ?_ ?_ _ _|with_reducible refine bel_trans ?_ hbx|with_reducible refine bel_trans ?_ hbz|with_reducible refine bel_next ?_|with_reducible refine RdN.set2z ?_ ?_ _ _|with_reducible refine RdN.below ?_ hbx|with_reducible refine RdN.below ?_ hbz|with_reducible refine RdN.below ?_ (below_alloc _ _)|((try simp only[size_alloc,size_drew]);omega)))
 case rest=>
  obtain⟨bx,ax,kx,bz,az,kz,rfl,rfl,X5,x5,Z5,z5,hb5,hne,hbx0,hbz0⟩:=hcut
  generalize hwx:wc=w5 at*
  clear hwx
  have c5:=c4.below hb5;have d5:=d4.below hb5;have T5:=T4.below hb5
  have B5:=B4.trans (hb5.mono B4.size)
  clear P4 m4 g4 T4 c4 d4 B4 hb5 HFL HCE hbx0 hbz0 hb4
  have hCD:L+L≤H+H:=by have:=ok.1.le;omega
  obtain⟨h32,hL0⟩:=ln2_pos8 ok.1 s1
  obtain⟨bLn,bHn⟩:=ok.1.bits s1 (show s≤9000 by omega)
  have bLn:bitN (L+L)≤40001:=by have:=bitN_mul_le 2 L;rw[show 2*L=L+L by omega]at this;have h2:bitN 2≤2:=bitN_le.2 (by decide);omega
  have bHn:bitN (H+H)≤40001:=by have:=bitN_mul_le 2 H;rw[show 2*H=H+H by omega]at this;have h2:bitN 2≤2:=bitN_le.2 (by decide);omega
  have bU1n:bitN U1≤10000:=Nat.le_trans (bitN_mono bU1) (by rw[bitN_two_pow];clear bU1 bU2 h32;omega)
  have bU2n:bitN U2≤10000:=Nat.le_trans (bitN_mono bU2) (by rw[bitN_two_pow];clear bU1 bU2 h32;omega)
  have hqb:splitQ (sg n1 U1) (L+L) (H+H)≤65536:=split_sizes rfl hCD h32 hL0 (by rw[show(sg n1 U1).natAbs=U1 by unfold sg;split<;>omega];exact bU1)
  obtain⟨hA0,-⟩:=splitA_range (l:=sg n1 U1) (show 0<L+L by omega) hCD
  have hAB:=splitA_le (C:=L+L) (D:=H+H) hlh hCD
  obtain⟨A,hA⟩:∃A:Nat,splitA (sg n1 U1) (L+L) (H+H)=(A:Int):=⟨(splitA (sg n1 U1) (L+L) (H+H)).toNat,by omega⟩
  obtain⟨B,hB⟩:∃B:Nat,splitB (sg n1 U1) (sg n2 U2) (L+L) (H+H)=(B:Int):=⟨(splitB (sg n1 U1) (sg n2 U2) (L+L) (H+H)).toNat,by omega⟩
  have hbB:bitN B≤2560000:=Nat.le_trans (split_bits (N:=60000) hB hqb bU2 (by clear bU1 bU2 hA hB h32;omega) (by clear bU1 bU2 hA hB h32;omega)) (by decide)
  have hA':=Lib.hid hA;have hB':=Lib.hid hB;have ok':=Lib.hid ok
  clear hA0 hAB h32
  go_upto_region 6 with fail
  have V6:=blk_a1 (w:=w5) (T:=145) (c:= #[.bool false,.slice none 0 0]) (o:= .cells #[.bool false,.slice none 0 0] 145 (0,0))
  have W6:=blk_a2 (w:=w5) (T:=145) (o:= .cells #[.bool false,.slice none 0 0] 145 (0,0)) (c:= #[.bool false,.slice none 0 0])
  have hb6:Below w5.heap.size w5 ((w5.alloc (.cells #[.bool false,.slice none 0 0] 145 (0,0))).alloc (.cells #[.bool false,.slice none 0 0] 145 (0,0))):=below_2
  have X6:=X5.below hb6;have Z6:=Z5.below hb6;have x6:=x5.below hb6;have z6:=z5.below hb6;have c6:=c5.below hb6;have d6:=d5.below hb6;have T6:=T5.below hb6
  have hxv:bx≠w5.heap.size:=Nat.ne_of_lt X5.1
  have hzv:bz≠w5.heap.size:=Nat.ne_of_lt Z5.1
  have hxw:bx≠w5.heap.size+1:=Nat.ne_of_lt (Nat.lt_succ_of_lt X5.1)
  have hzw:bz≠w5.heap.size+1:=Nat.ne_of_lt (Nat.lt_succ_of_lt Z5.1)
  have hvw:w5.heap.size≠w5.heap.size+1:=Nat.ne_of_lt (Nat.lt_succ_self _)
  have hwv:w5.heap.size+1≠w5.heap.size:=fun h=>hvw h.symm
  have hv6:w5.heap.size≤w5.heap.size:=Nat.le_refl _
  have hw6:w5.heap.size≤w5.heap.size+1:=Nat.le_succ _
  have B6:=hb6
  clear X5 Z5 x5 z5 c5 d5 T5 hb6
  generalize (w5.alloc (.cells #[.bool false,.slice none 0 0] 145 (0,0))).alloc (.cells #[.bool false,.slice none 0 0] 145 (0,0))=w6 at*
  generalize w5.heap.size+1=bw at*
  obtain⟨cX0,cX1,fX0,fX1,sX⟩:=X6.open2
  obtain⟨cZ0,cZ1,fZ0,fZ1,sZ⟩:=Z6.open2
  obtain⟨cV0,cV1,fV0,fV1,sV⟩:=V6.open2
  obtain⟨cW0,cW1,fW0,fW1,sW⟩:=W6.open2
  go_upto_if 73 with fail
  go_cut [4] (fun kv w'=>kv= .int .i64 (splitK (sg n1 U1) (L+L) (H+H))∧∃nx av kv2 ny aw kw,Blk w' w5.heap.size #[.bool nx,.slice av (digs BB A).length kv2]∧RdN w' (.slice av (digs BB A).length kv2) (digs BB A)∧Blk w' bw #[.bool ny,.slice aw (digs BB B).length kw]∧RdN w' (.slice aw (digs BB B).length kw) (digs BB B)∧Below w5.heap.size w5 w')
  case first=>
   clear hA' hB' ok'
   cases n1
   ·as_aux_lemma=>
    have hl0:¬sg false U1<0:=by unfold sg;simp
    obtain⟨Q,hQ⟩:∃Q,U1/(H+H)=Q:=⟨_,rfl⟩
    obtain⟨R,hR⟩:∃R,U1%(H+H)=R:=⟨_,rfl⟩
    have hq:splitQ (sg false U1) (L+L) (H+H)=Q:=by unfold splitQ;rw[if_neg hl0];show(sg false U1).natAbs/(H+H)=Q;rw[show(sg false U1).natAbs=U1 by unfold sg;simp];exact hQ
    rw[hq]at hqb
    have hKQ:splitK (sg false U1) (L+L) (H+H)=(Q:Int):=by unfold splitK;rw[if_neg hl0,hq]
    have hAR:A=R:=by
     unfold splitA at hA
     rw[if_neg hl0,hq]at hA
     have h5:=Nat.div_add_mod U1 (H+H)
     rw[hQ,hR,Nat.mul_comm]at h5
     have h6:sg false U1=(U1:Int):=by unfold sg;simp
     rw[h6]at hA
     generalize Q*(H+H)=y at*
     omega
    obtain⟨t,ht⟩:∃t,Q*(L+L)=t:=⟨_,rfl⟩
    have hBt:sg n2 U2-(t:Int)=(B:Int):=by
     unfold splitB at hB
     rw[if_neg hl0,hq,ht]at hB
     exact hB
    have hKQ:=Lib.hid hKQ;have hBt:=Lib.hid hBt
    subst hAR
    have bQ:bitN Q≤17:=bitN_le.2 (by rw[show(2:Nat)^17=131072 from rfl];omega)
    have bt:bitN t≤400000:=by have:=bitN_mul_le Q (L+L);rw[ht]at this;omega
    have HDV:=Lib.hid (fun w v u (h:RdN w v (digs BB U1)) (k:RdN w u (digs BB (H+H))) (hT:Tab w)=>div_n (h.num (by omega)) (k.num (by omega)) hT (show H+H≠0 by omega) hQ hR)
    have HSM:=Lib.hid (fun w v (h:RdN w v (digs BB Q))=>nsmall_s h (show Q<18446744073709551616 by omega))
    have HML:=Lib.hid (fun w v u (h:RdN w v (digs BB Q)) (k:RdN w u (digs BB (L+L)))=>mul_n (h.num (by omega)) (k.num (by omega)) ht (by omega))
    have HMI:=Lib.hid (fun w v u (h:RdN w v (digs BB U2)) (k:RdN w u (digs BB t))=>minus_n (neg:=n2) h (k.num (by omega)) (by omega))
    have wq:IntKind.i64.wrap (Q:Int)=(Q:Int):=by clear hQ hR ht;rw[IntKind.wrap_i64];omega
    clear hQ hR ht hl0 hq hA hB hqb bQ bt bU1n bU2n bLn bHn bU1 bU2 hCD hL0 hlh
    go_wp2_with
     (first
       |(go_at_call 98;(with_reducible refine(HDV.out _ _ _ x6 d6 T6).mono ?_);rintro e w7 ⟨vq7,vr7,rfl,q7,r7,hb7⟩;have B7:=B6.trans (hb7.mono B6.size);have x7:=x6.below hb7;have z7:=z6.below hb7;have c7:=c6.below hb7;have d7:=d6.below hb7;have T7:=T6.below hb7;have X7:=X6.below hb7;have Z7:=Z6.below hb7;have V7:=V6.below hb7;have W7:=W6.below hb7;clear x6 z6 c6 d6 T6 X6 Z6 V6 W6;obtain⟨cX0_7,cX1_7,fX0_7,fX1_7,sX_7⟩:=X7.open2;obtain⟨cZ0_7,cZ1_7,fZ0_7,fZ1_7,sZ_7⟩:=Z7.open2;obtain⟨cV0_7,cV1_7,fV0_7,fV1_7,sV_7⟩:=V7.open2;obtain⟨cW0_7,cW1_7,fW0_7,fW1_7,sW_7⟩:=W7.open2;obtain⟨ar7,kr7,rfl,-⟩:=r7.view;try simp only[List.length_nil]at r7)
       |(go_at_call 95;(with_reducible refine(HSM.out _ _ q7).mono ?_);rintro e w8 ⟨rfl,hb8⟩;have B8:=B7.trans (hb8.mono B7.size);have x8:=x7.below hb8;have z8:=z7.below hb8;have c8:=c7.below hb8;have d8:=d7.below hb8;have T8:=T7.below hb8;have X8:=X7.below hb8;have Z8:=Z7.below hb8;have V8:=V7.below hb8;have W8:=W7.below hb8;have q8:=q7.below hb8;have r8:=r7.below hb8;clear x7 z7 c7 d7 T7 X7 Z7 V7 W7 q7 r7;clear cX0_7 cX1_7 fX0_7 fX1_7 sX_7;obtain⟨cX0_8,cX1_8,fX0_8,fX1_8,sX_8⟩:=X8.open2;clear cZ0_7 cZ1_7 fZ0_7 fZ1_7 sZ_7;obtain⟨cZ0_8,cZ1_8,fZ0_8,fZ1_8,sZ_8⟩:=Z8.open2;clear cV0_7 cV1_7 fV0_7 fV1_7 sV_7;obtain⟨cV0_8,cV1_8,fV0_8,fV1_8,sV_8⟩:=V8.open2;clear cW0_7 cW1_7 fW0_7 fW1_7 sW_7;obtain⟨cW0_8,cW1_8,fW0_8,fW1_8,sW_8⟩:=W8.open2)
       |(go_at_call 96;(with_reducible refine(HML.out _ _ _ q8 c8).mono ?_);rintro e w9 ⟨vt9,rfl,t9,hb9⟩;have B9:=B8.trans (hb9.mono B8.size);have x9:=x8.below hb9;have z9:=z8.below hb9;have c9:=c8.below hb9;have d9:=d8.below hb9;have T9:=T8.below hb9;have X9:=X8.below hb9;have Z9:=Z8.below hb9;have V9:=V8.below hb9;have W9:=W8.below hb9;have q9:=q8.below hb9;have r9:=r8.below hb9;clear x8 z8 c8 d8 T8 X8 Z8 V8 W8 q8 r8;clear cX0_8 cX1_8 fX0_8 fX1_8 sX_8;obtain⟨cX0_9,cX1_9,fX0_9,fX1_9,sX_9⟩:=X9.open2;clear cZ0_8 cZ1_8 fZ0_8 fZ1_8 sZ_8;obtain⟨cZ0_9,cZ1_9,fZ0_9,fZ1_9,sZ_9⟩:=Z9.open2;clear cV0_8 cV1_8 fV0_8 fV1_8 sV_8;obtain⟨cV0_9,cV1_9,fV0_9,fV1_9,sV_9⟩:=V9.open2;clear cW0_8 cW1_8 fW0_8 fW1_8 sW_8;obtain⟨cW0_9,cW1_9,fW0_9,fW1_9,sW_9⟩:=W9.open2)
       |(go_at_call 99;(with_reducible refine(HMI.out _ _ _ z9 t9).mono ?_);rintro e w10 ⟨ny,Zb,vy,rfl,hsg,y10,hb10⟩;have B10:=B9.trans (hb10.mono B9.size);have x10:=x9.below hb10;have z10:=z9.below hb10;have c10:=c9.below hb10;have d10:=d9.below hb10;have T10:=T9.below hb10;have X10:=X9.below hb10;have Z10:=Z9.below hb10;have V10:=V9.below hb10;have W10:=W9.below hb10;have q10:=q9.below hb10;have r10:=r9.below hb10;have t10:=t9.below hb10;clear x9 z9 c9 d9 T9 X9 Z9 V9 W9 q9 r9 t9;clear cX0_9 cX1_9 fX0_9 fX1_9 sX_9;obtain⟨cX0_10,cX1_10,fX0_10,fX1_10,sX_10⟩:=X10.open2;clear cZ0_9 cZ1_9 fZ0_9 fZ1_9 sZ_9;obtain⟨cZ0_10,cZ1_10,fZ0_10,fZ1_10,sZ_10⟩:=Z10.open2;clear cV0_9 cV1_9 fV0_9 fV1_9 sV_9;obtain⟨cV0_10,cV1_10,fV0_10,fV1_10,sV_10⟩:=V10.open2;clear cW0_9 cW1_9 fW0_9 fW1_9 sW_9;obtain⟨cW0_10,cW1_10,fW0_10,fW1_10,sW_10⟩:=W10.open2;obtain⟨ay10,ky10,rfl,-⟩:=y10.view;try simp only[List.length_nil]at y10)
       |fail)
    obtain rfl:Zb=B:=by
     have h5:=hBt.out
     rw[←hsg]at h5
     unfold sg at h5
     split at h5<;>omega
    go_meet
    refine⟨by rw[hKQ.out],false,ar7,kr7,ny,ay10,ky10,?_,?_,?_,?_,?_⟩
    ·exact(V10.set2 _ _).other2 hvw _ _
    ·exact(r10.set2 V10 bcells2 _ _).set2 (W10.other2 hwv _ _) bcells2 _ _
    ·exact(W10.other2 hwv _ _).set2 _ _
    ·exact(y10.set2 V10 bcells2 _ _).set2 (W10.other2 hwv _ _) bcells2 _ _
    ·exact below_set (below_set (below_set (below_set B10 hv6 _) hv6 _) hw6 _) hw6 _
   ·as_aux_lemma=>
    have hU0:U1≠0:=hn1 rfl
    have hl0:sg true U1<0:=by unfold sg;simp;omega
    obtain⟨Q,hQ⟩:∃Q,U1/(L+L)+(if U1%(L+L)=0 then 0 else 1)=Q:=⟨_,rfl⟩
    have hQc:=up_cdiv hQ
    have hq:splitQ (sg true U1) (L+L) (H+H)=Q:=by unfold splitQ;rw[if_pos hl0];show cdiv (sg true U1).natAbs (L+L)=Q;rw[show(sg true U1).natAbs=U1 by unfold sg;simp];exact hQc
    rw[hq]at hqb
    have hKQ:splitK (sg true U1) (L+L) (H+H)= -(Q:Int):=by unfold splitK;rw[if_pos hl0,hq]
    obtain⟨t,ht⟩:∃t,Q*(L+L)=t:=⟨_,rfl⟩
    obtain⟨u,hu⟩:∃u,Q*(H+H)=u:=⟨_,rfl⟩
    have hAt:sg true U1+(t:Int)=(A:Int):=by
     unfold splitA at hA
     rw[if_pos hl0,hq,ht]at hA
     exact hA
    have hBt:sg n2 U2+(u:Int)=(B:Int):=by
     unfold splitB at hB
     rw[if_pos hl0,hq,hu]at hB
     exact hB
    have hKQ:=Lib.hid hKQ;have hBt:=Lib.hid hBt;have hAt:=Lib.hid hAt
    have bQ:bitN Q≤17:=bitN_le.2 (by rw[show(2:Nat)^17=131072 from rfl];omega)
    have bt:bitN t≤400000:=by have:=bitN_mul_le Q (L+L);rw[ht]at this;omega
    have bu:bitN u≤400000:=by have:=bitN_mul_le Q (H+H);rw[hu]at this;omega
    have HUP:=Lib.hid (fun w v u (h:RdN w v (digs BB U1)) (k:RdN w u (digs BB (L+L))) (hT:Tab w)=>up_n (h.num (by omega)) (k.num (by omega)) hT (show L+L≠0 by omega) hQ)
    have HSM:=Lib.hid (fun w v (h:RdN w v (digs BB Q))=>nsmall_s h (show Q<18446744073709551616 by omega))
    have HM1:=Lib.hid (fun w v u (h:RdN w v (digs BB Q)) (k:RdN w u (digs BB (L+L)))=>mul_n (h.num (by omega)) (k.num (by omega)) ht (by omega))
    have HM2:=Lib.hid (fun w v u (h:RdN w v (digs BB Q)) (k:RdN w u (digs BB (H+H)))=>mul_n (h.num (by omega)) (k.num (by omega)) hu (by omega))
    have HP1:=Lib.hid (fun w v u (h:RdN w v (digs BB U1)) (k:RdN w u (digs BB t))=>plus_n (neg:=true) h (k.num (by omega)) (by omega))
    have HP2:=Lib.hid (fun w v y (h:RdN w v (digs BB U2)) (k:RdN w y (digs BB u))=>plus_n (neg:=n2) h (k.num (by omega)) (by omega))
    have wq:IntKind.i64.wrap (Q:Int)=(Q:Int):=by clear hQ ht hu hQc;rw[IntKind.wrap_i64];omega
    have wq2:wrap64 (-(Q:Int))= -(Q:Int):=by clear hQ ht hu hQc wq;unfold wrap64;omega
    have wq3:IntKind.i64.wrap (-(Q:Int))= -(Q:Int):=by clear hQ ht hu hQc wq wq2;rw[IntKind.wrap_i64];omega
    clear hQ hQc ht hu hl0 hq hA hB hqb bQ bt bu bU1n bU2n bLn bHn bU1 bU2 hCD hL0 hlh hU0
    go_upto_region 12 with
     (first
       |(go_at_call 94;(with_reducible refine(HUP.out _ _ _ x6 c6 T6).mono ?_);rintro e w7 ⟨vq7,rfl,q7,hb7⟩;have B7:=B6.trans (hb7.mono B6.size);have x7:=x6.below hb7;have z7:=z6.below hb7;have c7:=c6.below hb7;have d7:=d6.below hb7;have T7:=T6.below hb7;have X7:=X6.below hb7;have Z7:=Z6.below hb7;have V7:=V6.below hb7;have W7:=W6.below hb7;clear x6 z6 c6 d6 T6 X6 Z6 V6 W6;obtain⟨cX0_7,cX1_7,fX0_7,fX1_7,sX_7⟩:=X7.open2;obtain⟨cZ0_7,cZ1_7,fZ0_7,fZ1_7,sZ_7⟩:=Z7.open2;obtain⟨cV0_7,cV1_7,fV0_7,fV1_7,sV_7⟩:=V7.open2;obtain⟨cW0_7,cW1_7,fW0_7,fW1_7,sW_7⟩:=W7.open2)
       |(go_at_call 95;(with_reducible refine(HSM.out _ _ q7).mono ?_);rintro e w8 ⟨rfl,hb8⟩;have B8:=B7.trans (hb8.mono B7.size);have x8:=x7.below hb8;have z8:=z7.below hb8;have c8:=c7.below hb8;have d8:=d7.below hb8;have T8:=T7.below hb8;have X8:=X7.below hb8;have Z8:=Z7.below hb8;have V8:=V7.below hb8;have W8:=W7.below hb8;have q8:=q7.below hb8;clear x7 z7 c7 d7 T7 X7 Z7 V7 W7 q7;clear cX0_7 cX1_7 fX0_7 fX1_7 sX_7;obtain⟨cX0_8,cX1_8,fX0_8,fX1_8,sX_8⟩:=X8.open2;clear cZ0_7 cZ1_7 fZ0_7 fZ1_7 sZ_7;obtain⟨cZ0_8,cZ1_8,fZ0_8,fZ1_8,sZ_8⟩:=Z8.open2;clear cV0_7 cV1_7 fV0_7 fV1_7 sV_7;obtain⟨cV0_8,cV1_8,fV0_8,fV1_8,sV_8⟩:=V8.open2;clear cW0_7 cW1_7 fW0_7 fW1_7 sW_7;obtain⟨cW0_8,cW1_8,fW0_8,fW1_8,sW_8⟩:=W8.open2)
       |(go_at_call 96;(with_reducible refine(HM1.out _ _ _ q8 c8).mono ?_);rintro e w9 ⟨vt9,rfl,t9,hb9⟩;have B9:=B8.trans (hb9.mono B8.size);have x9:=x8.below hb9;have z9:=z8.below hb9;have c9:=c8.below hb9;have d9:=d8.below hb9;have T9:=T8.below hb9;have X9:=X8.below hb9;have Z9:=Z8.below hb9;have V9:=V8.below hb9;have W9:=W8.below hb9;have q9:=q8.below hb9;clear x8 z8 c8 d8 T8 X8 Z8 V8 W8 q8;clear cX0_8 cX1_8 fX0_8 fX1_8 sX_8;obtain⟨cX0_9,cX1_9,fX0_9,fX1_9,sX_9⟩:=X9.open2;clear cZ0_8 cZ1_8 fZ0_8 fZ1_8 sZ_8;obtain⟨cZ0_9,cZ1_9,fZ0_9,fZ1_9,sZ_9⟩:=Z9.open2;clear cV0_8 cV1_8 fV0_8 fV1_8 sV_8;obtain⟨cV0_9,cV1_9,fV0_9,fV1_9,sV_9⟩:=V9.open2;clear cW0_8 cW1_8 fW0_8 fW1_8 sW_8;obtain⟨cW0_9,cW1_9,fW0_9,fW1_9,sW_9⟩:=W9.open2;obtain⟨at9,kt9,rfl,-⟩:=t9.view;try simp only[List.length_nil]at t9)
       |(go_at_call 96;(with_reducible refine(HM2.out _ _ _ q9 d9).mono ?_);rintro e w10 ⟨vu10,rfl,u10,hb10⟩;have B10:=B9.trans (hb10.mono B9.size);have x10:=x9.below hb10;have z10:=z9.below hb10;have c10:=c9.below hb10;have d10:=d9.below hb10;have T10:=T9.below hb10;have X10:=X9.below hb10;have Z10:=Z9.below hb10;have V10:=V9.below hb10;have W10:=W9.below hb10;have q10:=q9.below hb10;have t10:=t9.below hb10;clear x9 z9 c9 d9 T9 X9 Z9 V9 W9 q9 t9;clear cX0_9 cX1_9 fX0_9 fX1_9 sX_9;obtain⟨cX0_10,cX1_10,fX0_10,fX1_10,sX_10⟩:=X10.open2;clear cZ0_9 cZ1_9 fZ0_9 fZ1_9 sZ_9;obtain⟨cZ0_10,cZ1_10,fZ0_10,fZ1_10,sZ_10⟩:=Z10.open2;clear cV0_9 cV1_9 fV0_9 fV1_9 sV_9;obtain⟨cV0_10,cV1_10,fV0_10,fV1_10,sV_10⟩:=V10.open2;clear cW0_9 cW1_9 fW0_9 fW1_9 sW_9;obtain⟨cW0_10,cW1_10,fW0_10,fW1_10,sW_10⟩:=W10.open2;obtain⟨au10,ku10,rfl,-⟩:=u10.view;try simp only[List.length_nil]at u10)
       |fail)
    have Dw:Below w10.heap.size w10 w10.drew:=below_drewN (Below.refl _ _) 1
    have Xd:=X10.below Dw;have Zd:=Z10.below Dw;have Vd:=V10.below Dw;have Wd:=W10.below Dw;have xd:=x10.below Dw;have zd:=z10.below Dw;have td:=t10.below Dw;have ud:=u10.below Dw
    have Bd:=B10.trans (Dw.mono B10.size)
    have yd:=Lib.hid (cells2x2 Xd Zd)
    clear X10 Z10 V10 W10 x10 z10 t10 u10 B10 q10 c10 d10 T10
    go_region_held3 (fun w'=>(w'.cell? ⟨bx,0,none⟩=some (.bool true)∧w'.cell? ⟨bx,1,none⟩=some (.slice ax (digs BB U1).length kx))∧w'.cell? ⟨bz,0,none⟩=some (.bool n2)∧w'.cell? ⟨bz,1,none⟩=some (.slice az (digs BB U2).length kz))
     (first|with_reducible exact yd.out|with_reducible exact y1.out|with_reducible exact y2.out|with_reducible exact cells2x2 (X2.other2 hxv _ _) (Z2.other2 hzv _ _)|with_reducible exact cells2x2 ((X2.other2 hxv _ _).other2 hxw _ _) ((Z2.other2 hzv _ _).other2 hzw _ _))
     (first
       |(go_at_call 97;(with_reducible refine(HP1.out _ _ _ xd td).mono ?_);rintro e y1w ⟨nx,Za,vx,rfl,hsa,p1,hz1⟩;obtain⟨ap1,kp1,rfl,-⟩:=p1.view;have X1:=Xd.below hz1;have Z1:=Zd.below hz1;have V1:=Vd.below hz1;have W1:=Wd.below hz1;have zz1:=zd.below hz1;have uu1:=ud.below hz1;have BB1:=Bd.trans (hz1.mono Bd.size);have y1:=Lib.hid (cells2x2 X1 Z1))
       |(go_at_call 97;(with_reducible refine(HP2.out _ _ _ zz1 uu1).mono ?_);rintro e y2w ⟨ny,Zb,vy,rfl,hsb,p2,hz2⟩;obtain⟨ap2,kp2,rfl,-⟩:=p2.view;have X2:=X1.below hz2;have Z2:=Z1.below hz2;have V2:=V1.below hz2;have W2:=W1.below hz2;have pp2:=p1.below hz2;have BB2:=BB1.trans (hz2.mono BB1.size);have y2:=Lib.hid (cells2x2 X2 Z2);obtain⟨cV0,cV1,fV0,fV1,sV⟩:=V2.open2;obtain⟨cW0,cW1,fW0,fW1,sW⟩:=W2.open2)
       |fail)
    all_goals
     go_wp2_with fail
     obtain rfl:Za=A:=by
      have h5:=hAt.out
      rw[←hsa]at h5
      unfold sg at h5
      split at h5<;>omega
     obtain rfl:Zb=B:=by
      have h5:=hBt.out
      rw[←hsb]at h5
      unfold sg at h5
      split at h5<;>omega
     go_meet
     refine⟨by rw[hKQ.out],nx,ap1,kp1,ny,ap2,kp2,?_,?_,?_,?_,?_⟩
     ·exact(V2.set2 _ _).other2 hvw _ _
     ·exact(pp2.set2 V2 bcells2 _ _).set2 (W2.other2 hwv _ _) bcells2 _ _
     ·exact(W2.other2 hwv _ _).set2 _ _
     ·exact(p2.set2 V2 bcells2 _ _).set2 (W2.other2 hwv _ _) bcells2 _ _
     ·exact below_set (below_set (below_set (below_set BB2 hv6 _) hv6 _) hw6 _) hw6 _
  case rest=>
   obtain⟨rfl,nx,av,kv2,ny,aw,kw,V7,a7,W7,b7,hb7⟩:=hcut
   generalize hwx:wc=w7 at*
   clear hwx
   have B7:=B5.trans (hb7.mono B5.size)
   clear X6 Z6 V6 W6 x6 z6 c6 d6 T6 B6 cX0 cX1 fX0 fX1 sX cZ0 cZ1 fZ0 fZ1 sZ cV0 cV1 fV0 fV1 sV cW0 cW1 fW0 fW1 sW hb7 hxv hzv hxw hzw hvw hwv hv6 hw6 hA hB hqb bLn bHn bU1n bU2n bU1 bU2 hCD hL0 hlh ok
   obtain⟨x1,hx1⟩:∃x,1*2^s=x:=⟨_,rfl⟩
   have hxs:2^s=x1:=by rw[←hx1,Nat.one_mul]
   have bx1:bitN x1≤9010:=by rw[←hxs,bitN_two_pow];omega
   have bB:bitN B≤2560000:=hbB
   obtain⟨cb,hcb⟩:∃c,cmpN B x1=c:=⟨_,rfl⟩
   have HSL:=Lib.hid (fun w v (h:RdN w v (digs BB 1))=>shl_n (n:=s) (h.num (by rw[bitN_one];omega)) hx1 (by rw[bitN_one];omega))
   have HCM:=Lib.hid (fun w v u (h:RdN w v (digs BB B)) (k:RdN w u (digs BB x1))=>cmp_n (h.num bB) (k.num (by omega)) hcb)
   have hxs:=Lib.hid hxs
   obtain⟨cV0,cV1,fV0,fV1,sV⟩:=V7.open2
   obtain⟨cW0,cW1,fW0,fW1,sW⟩:=W7.open2
   by_cases hfit:B≤x1
   ·have d5:decide (0<cb)=false:=decide_eq_false (by have:=cmpN_le' hfit;omega)
    have hfit':=Lib.hid hfit
    clear hfit hcb hx1 bx1 bB hbB
    go_upto_region 21 with
     (first
       |(go_at_call 101;(with_reducible refine(of_1).mono ?_);rintro e w8 ⟨vo8,rfl,o8,hb8⟩;have B8:=B7.trans (hb8.mono B7.size);have a8:=a7.below hb8;have b8:=b7.below hb8;have V8:=V7.below hb8;have W8:=W7.below hb8;clear a7 b7 V7 W7;obtain⟨cV0_8,cV1_8,fV0_8,fV1_8,sV_8⟩:=V8.open2;obtain⟨cW0_8,cW1_8,fW0_8,fW1_8,sW_8⟩:=W8.open2)
       |(go_at_call 100;(with_reducible refine(HSL.out _ _ o8).mono ?_);rintro e w9 ⟨vp9,rfl,p9,hb9⟩;have B9:=B8.trans (hb9.mono B8.size);have a9:=a8.below hb9;have b9:=b8.below hb9;have V9:=V8.below hb9;have W9:=W8.below hb9;have o9:=o8.below hb9;clear a8 b8 V8 W8 o8;clear cV0_8 cV1_8 fV0_8 fV1_8 sV_8;obtain⟨cV0_9,cV1_9,fV0_9,fV1_9,sV_9⟩:=V9.open2;clear cW0_8 cW1_8 fW0_8 fW1_8 sW_8;obtain⟨cW0_9,cW1_9,fW0_9,fW1_9,sW_9⟩:=W9.open2)
       |(go_at_call 102;(with_reducible refine(HCM.out _ _ _ b9 p9).mono ?_);rintro e w10 ⟨rfl,hb10⟩;have B10:=B9.trans (hb10.mono B9.size);have a10:=a9.below hb10;have b10:=b9.below hb10;have V10:=V9.below hb10;have W10:=W9.below hb10;have o10:=o9.below hb10;have p10:=p9.below hb10;clear a9 b9 V9 W9 o9 p9;clear cV0_9 cV1_9 fV0_9 fV1_9 sV_9;obtain⟨cV0_10,cV1_10,fV0_10,fV1_10,sV_10⟩:=V10.open2;clear cW0_9 cW1_9 fW0_9 fW1_9 sW_9;obtain⟨cW0_10,cW1_10,fW0_10,fW1_10,sW_10⟩:=W10.open2)
       |fail)
    go_quiet (fail)
    go_wp2_with fail
    refine bodyPost_ret (v:= .tuple #[.int .i64 (splitK (sg n1 U1) (L+L) (H+H)),.slice av (digs BB A).length kv2,.slice aw (digs BB B).length kw,.int .i64 0]) ?_ rfl ?_
    ·simp[results,Tryz.results60,go_sem]
    ·exact⟨L,H,ok'.out,.inl ⟨A,B,_,_,rfl,hA'.out,hB'.out,by rw[hxs.out];exact hfit'.out,a10.below (below_drewN (Below.refl _ _) _),b10.below (below_drewN (Below.refl _ _) _),B10.trans ((below_drewN (Below.refl _ _) _).mono B10.size)⟩⟩
   ·have d5:decide (0<cb)=true:=decide_eq_true (by rw[←hcb,cmpN_gt (show x1<B by omega)];decide)
    have hfit':=Lib.hid (show x1<B by omega)
    clear hfit hcb hx1 bx1 bB hbB
    go_wp2_with
     (first
       |(go_at_call 101;(with_reducible refine(of_1).mono ?_);rintro e w8 ⟨vo8,rfl,o8,hb8⟩;have B8:=B7.trans (hb8.mono B7.size);have a8:=a7.below hb8;have b8:=b7.below hb8;have V8:=V7.below hb8;have W8:=W7.below hb8;clear a7 b7 V7 W7;obtain⟨cV0_8,cV1_8,fV0_8,fV1_8,sV_8⟩:=V8.open2;obtain⟨cW0_8,cW1_8,fW0_8,fW1_8,sW_8⟩:=W8.open2)
       |(go_at_call 100;(with_reducible refine(HSL.out _ _ o8).mono ?_);rintro e w9 ⟨vp9,rfl,p9,hb9⟩;have B9:=B8.trans (hb9.mono B8.size);have a9:=a8.below hb9;have b9:=b8.below hb9;have V9:=V8.below hb9;have W9:=W8.below hb9;have o9:=o8.below hb9;clear a8 b8 V8 W8 o8;clear cV0_8 cV1_8 fV0_8 fV1_8 sV_8;obtain⟨cV0_9,cV1_9,fV0_9,fV1_9,sV_9⟩:=V9.open2;clear cW0_8 cW1_8 fW0_8 fW1_8 sW_8;obtain⟨cW0_9,cW1_9,fW0_9,fW1_9,sW_9⟩:=W9.open2)
       |(go_at_call 102;(with_reducible refine(HCM.out _ _ _ b9 p9).mono ?_);rintro e w10 ⟨rfl,hb10⟩;have B10:=B9.trans (hb10.mono B9.size);have a10:=a9.below hb10;have b10:=b9.below hb10;have V10:=V9.below hb10;have W10:=W9.below hb10;have o10:=o9.below hb10;have p10:=p9.below hb10;clear a9 b9 V9 W9 o9 p9;clear cV0_9 cV1_9 fV0_9 fV1_9 sV_9;obtain⟨cV0_10,cV1_10,fV0_10,fV1_10,sV_10⟩:=V10.open2;clear cW0_9 cW1_9 fW0_9 fW1_9 sW_9;obtain⟨cW0_10,cW1_10,fW0_10,fW1_10,sW_10⟩:=W10.open2)
       |fail)
    refine bodyPost_ret (v:= .tuple #[.int .i64 0,.slice none 0 0,.slice none 0 0,.int .i64 1]) ?_ rfl ?_
    ·simp[results,Tryz.results60,go_sem]
    ·exact⟨L,H,ok'.out,.inr ⟨by rw[hB'.out,hxs.out];have:=hfit'.out;omega,rfl,B10⟩⟩
theorem Within_e {w:World}{v u:Value}{L H:Nat}{s:Int}(h:Num w v L) (k:Num w u H) (hT:Tab w) (hLH:L≤H) (sH:bitN H≤300000) (s1: -1000000≤s) (s2:s≤1000000):
 Calls Tryz.prog 62 #[v,u,.int .i64 s,.bool false] w fun e w'=>∃n1 m1 e1 n2 m2 e2 x y,e= .returned (.agg #[.bool n1,x,.int .i64 e1,.bool n2,y,.int .i64 e2])∧bareD ⟨false,L,-s⟩=⟨n1,m1,e1⟩∧bareD ⟨false,H,-s⟩=⟨n2,m2,e2⟩∧RdN w' x (digs BB m1)∧RdN w' y (digs BB m2)∧Below w.heap.size w w':=by
 obtain⟨d1,q1⟩:∃d,bareD ⟨false,L,-s⟩=d:=⟨_,rfl⟩
 obtain⟨d2,q2⟩:∃d,bareD ⟨false,H,-s⟩=d:=⟨_,rfl⟩
 obtain⟨n1,m1,e1⟩:=d1
 obtain⟨n2,m2,e2⟩:=d2
 refine(Within_n (neg:=false) h k hT hLH sH s1 s2 (by simpa using q1) (by simpa using q2)).mono ?_
 rintro e w' ⟨x,y,rfl,h1,h2,h3⟩
 exact⟨n1,m1,e1,n2,m2,e2,x,y,rfl,q1,q2,h1,h2,h3⟩
def ExpR (w:World) (l h:Int) (s:Nat) (e:Ending) (w':World):Prop:=
 ∃L H,(AtOk 1 3 s L H∧AtDet 1 3 s L H)∧
  ((∃A B:Nat,∃Le He:Nat,∃n1 m1 f1 n2 m2 f2,∃x y:Value,e= .returned (.tuple #[.agg #[.bool n1,x,.int .i64 f1,.bool n2,y,.int .i64 f2],.int .i64 0])∧splitA l (L+L) (H+H)=(A:Int)∧splitB l h (L+L) (H+H)=(B:Int)∧B≤2^s∧ExOk A B s Le He∧
     bareD ⟨false,Le,-((s:Int)-splitK l (L+L) (H+H))⟩=⟨n1,m1,f1⟩∧bareD ⟨false,He,-((s:Int)-splitK l (L+L) (H+H))⟩=⟨n2,m2,f2⟩∧RdN w' x (digs BB m1)∧RdN w' y (digs BB m2)∧Below w.heap.size w w')∨
   (((2^s:Nat):Int)<splitB l h (L+L) (H+H)∧e= .returned (.tuple #[.agg #[.bool false,.slice none 0 0,.int .i64 0,.bool false,.slice none 0 0,.int .i64 0],.int .i64 1])∧Below w.heap.size w w'))
set_option maxHeartbeats 8000000 in
theorem Exp_of {w:World}{v1 v2:Value}{b1 b2:Bool}{A1 A2 s:Nat}{e1 e2 l h:Int}(k1:Num w v1 A1) (k2:Num w v2 A2) (hT:Tab w) (s1:8≤s) (s2:s≤8900) (hlh:l≤h) (hl:l.natAbs≤2^(12+s))
 (HS0:∀(w:World) v u,Num w v A1→Num w u A2→Tab w→Calls Tryz.prog 60 #[.agg #[.bool b1,v,.int .i64 e1,.bool b2,u,.int .i64 e2],.int .i64 (s:Int)] w (SplitR w l h s)):
 Calls Tryz.prog 32 #[.agg #[.bool b1,v1,.int .i64 e1,.bool b2,v2,.int .i64 e2],.int .i64 (s:Int)] w (ExpR w l h s):=by
 obtain⟨a1,l1,c1,rfl⟩:=k1.slice
 obtain⟨a2,l2,c2,rfl⟩:=k2.slice
 have HS:=Lib.hid HS0
 have P:=blk_a1 (w:=w) (T:=70) (c:= #[.bool b1,.slice a1 l1 c1,.int .i64 e1,.bool b2,.slice a2 l2 c2,.int .i64 e2]) (o:= .cells #[.bool false,.slice none 0 0,.int .i64 0,.bool false,.slice none 0 0,.int .i64 0] 70 (0,0))
 have R:=blk_a2 (w:=w) (T:=70) (o:= .cells #[.bool b1,.slice a1 l1 c1,.int .i64 e1,.bool b2,.slice a2 l2 c2,.int .i64 e2] 70 (0,0)) (c:= #[.bool false,.slice none 0 0,.int .i64 0,.bool false,.slice none 0 0,.int .i64 0])
 have B0:Below w.heap.size w ((w.alloc (.cells #[.bool b1,.slice a1 l1 c1,.int .i64 e1,.bool b2,.slice a2 l2 c2,.int .i64 e2] 70 (0,0))).alloc (.cells #[.bool false,.slice none 0 0,.int .i64 0,.bool false,.slice none 0 0,.int .i64 0] 70 (0,0))):=below_2
 have x0:=k1.below B0;have y0:=k2.below B0;have T0:=hT.below B0
 clear k1 k2 hT HS0
 go_enter Tryz.func32,Tryz.ntmps32
 go_upto_region 1 with fail
 generalize (w.alloc (.cells #[.bool b1,.slice a1 l1 c1,.int .i64 e1,.bool b2,.slice a2 l2 c2,.int .i64 e2] 70 (0,0))).alloc (.cells #[.bool false,.slice none 0 0,.int .i64 0,.bool false,.slice none 0 0,.int .i64 0] 70 (0,0))=w0 at*
 obtain⟨cP0,cP1,cP2,cP3,cP4,cP5,fP0,fP1,fP2,fP3,fP4,fP5,sP⟩:=P.open6
 go_cut [6,7,8,9] (fun kv av bv ev w'=>∃L H,(AtOk 1 3 s L H∧AtDet 1 3 s L H)∧Below w0.heap.size w0 w'∧
  ((∃A B:Nat,kv= .int .i64 (splitK l (L+L) (H+H))∧ev= .int .i64 0∧splitA l (L+L) (H+H)=(A:Int)∧splitB l h (L+L) (H+H)=(B:Int)∧B≤2^s∧RdN w' av (digs BB A)∧RdN w' bv (digs BB B))∨
   (((2^s:Nat):Int)<splitB l h (L+L) (H+H)∧ev= .int .i64 1)))
 case first=>
  go_wp2_with (first
   |(go_at_call 60;(with_reducible refine(HS.out _ _ _ x0 y0 T0).mono ?_);rintro e w1 ⟨L,H,ok,hS⟩;rcases hS with⟨A,B,va,vb,rfl,hA,hB,hf,ta,tb,hb1⟩|⟨hbad,rfl,hb1⟩)
   |fail)
  all_goals (try go_wp2_with fail)
  all_goals go_meet
  ·exact⟨L,H,ok,hb1,.inl ⟨A,B,rfl,rfl,hA,hB,hf,ta,tb⟩⟩
  ·exact⟨L,H,ok,hb1,.inr ⟨hbad,rfl⟩⟩
 case rest=>
  obtain⟨L,H,ok,hb1,hS⟩:=hcut
  generalize hwx:wc=w1 at*
  clear hwx
  have R1:=R.below hb1;have T1:=T0.below hb1;have B1:=B0.trans (hb1.mono B0.size)
  clear R T0 P x0 y0 cP0 cP1 cP2 cP3 cP4 cP5 fP0 fP1 fP2 fP3 fP4 fP5 sP B0 hb1
  rcases hS with⟨A,B,rfl,rfl,hA,hB,hf,ta,tb⟩|⟨hbad,rfl⟩
  ·have hCD:L+L≤H+H:=by have:=ok.1.le;omega
   obtain⟨h32,hL0⟩:=ln2_pos8 ok.1 s1
   have hqb:=split_sizes rfl hCD h32 hL0 hl
   have hAB:=splitA_le (C:=L+L) (D:=H+H) hlh hCD
   rw[hA,hB]at hAB
   have hAB:A≤B:=by omega
   obtain⟨kk,hkk⟩:∃x,splitK l (L+L) (H+H)=x:=⟨_,rfl⟩
   have hkn:kk.natAbs≤65536:=by rw[←hkk,splitQ_abs];exact hqb
   have bB:bitN B≤9000:=Nat.le_trans (bitN_mono hf) (by rw[bitN_two_pow];clear hf h32;omega)
   have bA:bitN A≤9000:=Nat.le_trans (bitN_mono hAB) bB
   have HE:=Lib.hid (fun w v u (h:RdN w v (digs BB A)) (k:RdN w u (digs BB B)) (hT:Tab w)=>Exp_ok (h.num (Nat.le_trans bA (by decide))) (k.num (Nat.le_trans bB (by decide))) hT s1 (Nat.le_trans s2 (by decide)) hAB hf)
   have wsk:IntKind.i64.wrap ((s:Int)-kk)=(s:Int)-kk:=by clear hf h32 hl;rw[IntKind.wrap_i64];omega
   have HWI:Hid (∀(w:World) v u Le He,RdN w v (digs BB Le)→RdN w u (digs BB He)→ExOk A B s Le He→Tab w→Calls Tryz.prog 62 #[v,u,.int .i64 ((s:Int)-kk),.bool false] w fun e w'=>∃n1 m1 e1 n2 m2 e2 x y,e= .returned (.agg #[.bool n1,x,.int .i64 e1,.bool n2,y,.int .i64 e2])∧bareD ⟨false,Le,-((s:Int)-kk)⟩=⟨n1,m1,e1⟩∧bareD ⟨false,He,-((s:Int)-kk)⟩=⟨n2,m2,e2⟩∧RdN w' x (digs BB m1)∧RdN w' y (digs BB m2)∧Below w.heap.size w w'):=Lib.hid (fun w v u Le He h1 h2 o hT=>by
    obtain⟨z1,z2⟩:=o.size (Nat.le_trans s2 (by decide))
    exact Within_e (h1.num (Nat.le_trans z1 (by decide))) (h2.num (Nat.le_trans z2 (by decide))) hT o.le (Nat.le_trans z2 (by decide)) (by clear hf h32 hl wsk;omega) (by clear hf h32 hl wsk;omega))
   rw[hkk]
   have hkk:=Lib.hid hkk;have hA:=Lib.hid hA;have hB:=Lib.hid hB;have hf:=Lib.hid hf;have ok:=Lib.hid ok
   obtain⟨aa,la,ka,rfl⟩:=(ta.num (Nat.le_trans bA (by decide))).slice
   obtain⟨ab,lb,kb,rfl⟩:=(tb.num (Nat.le_trans bB (by decide))).slice
   clear hCD h32 hL0 hqb hAB hkn bB bA hl hlh
   go_upto_region 6 with
    (first
      |(go_at_call 61;(with_reducible refine(HE.out _ _ _ ta tb T1).mono ?_);rintro e w2 ⟨vl,vh,Le,He,rfl,x2,y2,oe,hb2⟩;have B2:=B1.trans (hb2.mono B1.size);have p2:=ta.below hb2;have q2:=tb.below hb2;have T2:=T1.below hb2;have R2:=R1.below hb2;clear ta tb T1 R1;obtain⟨ax2,kx2,rfl,-⟩:=x2.view;(try simp only[List.length_nil]at x2);obtain⟨ay2,ky2,rfl,-⟩:=y2.view;try simp only[List.length_nil]at y2)
      |(go_at_call 62;(with_reducible refine(HWI.out _ _ _ Le He x2 y2 oe T2).mono ?_);rintro e w3 ⟨n1,m1,f1,n2,m2,f2,vu,vv,rfl,qa,qb,u3,v3,hb3⟩;have B3:=B2.trans (hb3.mono B2.size);have p3:=p2.below hb3;have q3:=q2.below hb3;have T3:=T2.below hb3;have R3:=R2.below hb3;have x3:=x2.below hb3;have y3:=y2.below hb3;clear p2 q2 T2 R2 x2 y2;obtain⟨au3,ku3,rfl,-⟩:=u3.view;(try simp only[List.length_nil]at u3);obtain⟨av3,kv3,rfl,-⟩:=v3.view;try simp only[List.length_nil]at v3)
      |fail)
   have hA6:=below_alloc w3 (.cells #[.bool n1,.slice au3 (digs BB m1).length ku3,.int .i64 f1,.bool n2,.slice av3 (digs BB m2).length kv3,.int .i64 f2] 70 (0,0))
   have Q4:Blk (w3.alloc (.cells #[.bool n1,.slice au3 (digs BB m1).length ku3,.int .i64 f1,.bool n2,.slice av3 (digs BB m2).length kv3,.int .i64 f2] 70 (0,0))) w3.heap.size #[.bool n1,.slice au3 (digs BB m1).length ku3,.int .i64 f1,.bool n2,.slice av3 (digs BB m2).length kv3,.int .i64 f2]:=blk_new
   have R4:=R3.below hA6;have u4:=u3.below hA6;have v4:=v3.below hA6
   have B4:=B3.trans (hA6.mono B3.size)
   clear hA6 R3 u3 v3 B3 x3 y3 p3 q3 T3 hb3
   generalize w3.alloc (.cells #[.bool n1,.slice au3 (digs BB m1).length ku3,.int .i64 f1,.bool n2,.slice av3 (digs BB m2).length kv3,.int .i64 f2] 70 (0,0))=w4 at*
   obtain⟨cQ0,cQ1,cQ2,cQ3,cQ4,cQ5,fQ0,fQ1,fQ2,fQ3,fQ4,fQ5,sQ⟩:=Q4.open6
   obtain⟨cR0,cR1,cR2,cR3,cR4,cR5,fR0,fR1,fR2,fR3,fR4,fR5,sR⟩:=R4.open6
   have qa:=Lib.hid qa;have qb:=Lib.hid qb
   go_wp2_with fail
   obtain⟨z0,z1,z2,z3,z4,z5,-⟩:=(R4.set6 (.bool n1) (.slice au3 (digs BB m1).length ku3) (.int .i64 f1) (.bool n2) (.slice av3 (digs BB m2).length kv3) (.int .i64 f2)).open6
   refine bodyPost_ret (v:= .tuple #[.agg #[.bool n1,.slice au3 (digs BB m1).length ku3,.int .i64 f1,.bool n2,.slice av3 (digs BB m2).length kv3,.int .i64 f2],.int .i64 0]) ?_ rfl ?_
   ·simp[results,Tryz.results32,go_sem,z0,z1,z2,z3,z4,z5]
   ·exact⟨L,H,ok.out,.inl ⟨A,B,Le,He,n1,m1,f1,n2,m2,f2,_,_,rfl,hA.out,hB.out,hf.out,oe,by rw[hkk.out];exact qa.out,by rw[hkk.out];exact qb.out,u4.set6 R4 dcells6 _ _ _ _ _ _,v4.set6 R4 dcells6 _ _ _ _ _ _,below_set6 B4 (by omega) _ _ _ _ _ _⟩⟩
  ·obtain⟨cR0,cR1,cR2,cR3,cR4,cR5,fR0,fR1,fR2,fR3,fR4,fR5,sR⟩:=R1.open6
   have hbad:=Lib.hid hbad
   go_wp2_with fail
   obtain⟨z0,z1,z2,z3,z4,z5,-⟩:=(R1.set6 (.bool false) (.slice none 0 0) (.int .i64 0) (.bool false) (.slice none 0 0) (.int .i64 0)).open6
   refine bodyPost_ret (v:= .tuple #[.agg #[.bool false,.slice none 0 0,.int .i64 0,.bool false,.slice none 0 0,.int .i64 0],.int .i64 1]) ?_ rfl ?_
   ·simp[results,Tryz.results32,go_sem,z0,z1,z2,z3,z4,z5]
   ·exact⟨L,H,ok,.inr ⟨hbad.out,rfl,below_set6 B1 (by omega) _ _ _ _ _ _⟩⟩
def ExpT (d lo hi:Dn) (s:Nat) (k:Int):Prop:=∃L H,(AtOk 1 3 s L H∧AtDet 1 3 s L H)∧k=splitK (floorU d s) (L+L) (H+H)∧splitB (floorU d s) (ceilU d s) (L+L) (H+H)≤((2^s:Nat):Int)∧ExpV d lo hi s k
theorem Exp_t {w:World}{v v':Value}{b n':Bool}{A M s:Nat}{e0 E:Int}(h:Num w v A) (h':Num w v' A) (hT:Tab w) (r1: -9223372036854775808≤e0) (r2:e0≤9223372036854775807) (q:bareD ⟨b,A,e0⟩=⟨n',M,E⟩) (g:rightB M E=true) (sA:bitN A≤400000) (s1:8≤s) (s2:s≤8500):
 Calls Tryz.prog 32 #[.agg #[.bool b,v,.int .i64 e0,.bool b,v',.int .i64 e0],.int .i64 (s:Int)] w (fun e w'=>∃p1 k1 f1 p2 k2 f2 x y er,e= .returned (.tuple #[.agg #[.bool p1,x,.int .i64 f1,.bool p2,y,.int .i64 f2],.int .i64 er])∧
  ((er=0∧∃k,ExpT ⟨n',M,E⟩ ⟨p1,k1,f1⟩ ⟨p2,k2,f2⟩ s k)∨(er=1∧s<40))∧RdN w' x (digs BB k1)∧RdN w' y (digs BB k2)∧Below w.heap.size w w'):=by
 have ht:=(rightB_parts g).2.2.2
 have hlh:floorU ⟨n',M,E⟩ s≤ceilU ⟨n',M,E⟩ s:=floor_ceil Rat.le_refl
 have hl:=floor_small (d:=⟨n',M,E⟩) (s:=s) ht
 refine(Exp_of h h' hT s1 (by omega) hlh hl (fun w v u h k hT=>Split_any h k hT r1 r2 r1 r2 q q g g sA sA Rat.le_refl s1 (by omega))).mono ?_
 rintro e w' ⟨L,H,ok,⟨A',B,Le,He,p1,k1,f1,p2,k2,f2,x,y,rfl,hA,hB,hf,oe,qa,qb,hx,hy,hb⟩|⟨hbad,rfl,hb⟩⟩
 ·obtain⟨y1,y2⟩:=oe.size (show s≤9000 by omega)
  have o:=exp_full (d:=⟨n',M,E⟩) s1 (show s≤8900 by omega) ht ok.1 hA hB hf oe y1 y2 qa qb
  exact⟨p1,k1,f1,p2,k2,f2,x,y,0,rfl,.inl ⟨rfl,_,L,H,ok,rfl,by rw[hB];exact Int.ofNat_le.2 hf,o⟩,hx,hy,hb⟩
 ·refine⟨false,0,0,false,0,0,_,_,1,rfl,.inr ⟨rfl,?_⟩,RdN.nil0 _,RdN.nil0 _,hb⟩
  rcases Nat.lt_or_ge s 32 with h5|h5
  ·omega
  ·refine absurd hbad (not_refused h5 ok.1 hlh hl ?_)
   have hc:=ceil_floor ⟨n',M,E⟩ s
   have h8:2^3≤2^s:=Nat.pow_le_pow_right (by decide) (by omega)
   have h9:((2^3:Nat):Int)≤((2^s:Nat):Int):=Int.ofNat_le.2 h8
   have h10:((2^3:Nat):Int)=8:=rfl
   rw[h10]at h9
   generalize ((2^s:Nat):Int)=p at*
   omega
end Go.Proofs.YtffaefjkpipjnaaGreatDoor
