/- dyad.bare and dyad.Bare by their contracts. Conditions: the number is short; math/bits' table stands in its variable. -/
import Derived.Test.YtffaefjkpipjnaaGreatDoorPkB11
import Derived.Test.YtffaefjkpipjnaaGreatDoorPkB01
import Derived.Test.YtffaefjkpipjnaaGreatDoorPkB05
namespace Go.Proofs.YtffaefjkpipjnaaGreatDoor
set_option maxRecDepth 100000
open Go.RowKit Go.ChangeShapes Go.WideShapes
theorem low_n {w:World}{v:Value}{A k:Nat}(h:Num w v A) (hT:Tab w) (h0:A≠0) (e:low2 A=k):Calls Tryz.prog 115 #[v] w (fun e w'=>e= .returned (.int .i64 (k:Int))∧w'=w):=by
 obtain⟨l,h1,h2,h3,rfl⟩:=h
 subst e
 refine(low_any h1 h2 (by omega) hT).mono ?_
 rintro e w' ⟨k,rfl,hk,rfl,-⟩
 rcases hk with⟨h,-⟩|⟨m,hm⟩
 ·exact absurd h h0
 ·exact⟨by rw[low2_uniq hm],rfl⟩
theorem shr_n {w:World}{v:Value}{A n C:Nat}(h:Num w v A) (hT:Tab w) (e:A/2^n=C) (hn:n≤9223372036854775807):Calls Tryz.prog 116 #[v,.int .i64 n] w (fun e w'=>∃v,e= .returned (.tuple #[v,.bool (decide (A%2^n≠0))])∧RdN w' v (digs BB C)∧Below w.heap.size w w'):=by
 obtain⟨l,h1,h2,h3,rfl⟩:=h
 subst e
 exact shr_any h1 h2 (i:=(n:Int)) (by omega) (by omega) (by omega) hT
def Dv (w:World) (d:Value) (D:Dn):Prop:=∃v,d= .agg #[.bool D.neg,v,.int .i64 D.e]∧Num w v D.m∧-9223372036854775808≤D.e∧D.e≤9223372036854775807
def Db (w:World) (d:Value) (D:Dn):Prop:=∃v,d= .agg #[.bool D.neg,v,.int .i64 D.e]∧RdN w v (digs BB D.m)
theorem Num.slice {w:World}{v:Value}{n:Nat}(h:Num w v n):∃a,∃m k:Nat,v= .slice a m k:=by
 obtain⟨l,h1,-⟩:=h
 obtain⟨a,k,h2,-⟩:=h1.view
 exact⟨a,_,k,h2⟩
def Blk (w:World) (b:Nat) (c:Array Value):Prop:=b<w.heap.size∧∃T,w.heap[b]?=some (.cells c T (0,0))
theorem Blk.below {w w':World}{b:Nat}{c:Array Value}(h:Blk w b c) (hb:Below w.heap.size w w'):Blk w' b c:=by
 obtain⟨h1,T,h2⟩:=h
 exact⟨Nat.lt_of_lt_of_le h1 hb.size,T,by rw[hb.block b h1];exact h2⟩
theorem Blk.open3 {w:World}{b:Nat}{x y z:Value}(h:Blk w b #[x,y,z]):w.cell? ⟨b,0,none⟩=some x∧w.cell? ⟨b,1,none⟩=some y∧w.cell? ⟨b,2,none⟩=some z∧w.frozen? ⟨b,0,none⟩=false∧w.frozen? ⟨b,1,none⟩=false∧w.frozen? ⟨b,2,none⟩=false∧b<w.heap.size:=by
 obtain⟨h1,T,h2⟩:=h
 exact⟨cell_at h2 rfl,cell_at h2 rfl,cell_at h2 rfl,free_at h2,free_at h2,free_at h2,h1⟩
theorem blk_new {w:World}{c:Array Value}{T:TypeId}:Blk (w.alloc (.cells c T (0,0))) w.heap.size c:=⟨by simp,T,heap_alloc_new _ _⟩
theorem blk_a1 {w:World}{c:Array Value}{T:TypeId}{o:Obj}:Blk ((w.alloc (.cells c T (0,0))).alloc o) w.heap.size c:=blk_new.below (below_alloc _ _)
theorem blk_a2 {w:World}{c:Array Value}{T:TypeId}{o:Obj}:Blk ((w.alloc o).alloc (.cells c T (0,0))) (w.heap.size+1) c:=
 ⟨by simp,T,heap_new2 _ _ _⟩
theorem Blk.set3 {w:World}{b:Nat}{x y z:Value}(h:Blk w b #[x,y,z]) (x' y' z':Value):Blk (((w.setCell ⟨b,0,none⟩ x').setCell ⟨b,1,none⟩ y').setCell ⟨b,2,none⟩ z') b #[x',y',z']:=by
 obtain⟨h1,T,h2⟩:=h
 exact⟨by simpa[World.setCell]using h1,T,heap_setC (heap_setC (heap_setC h2 x') y') z'⟩
theorem below_2 {w:World}{o1 o2:Obj}:Below w.heap.size w ((w.alloc o1).alloc o2):=below_a (below_alloc _ _)
theorem below_set {w w':World}(h:Below w.heap.size w w') {b j:Nat}(hb:w.heap.size≤b) (v:Value):Below w.heap.size w (w'.setCell ⟨b,j,none⟩ v):=h.setCell hb v
theorem RdN.away {w:World}{v:Value}{l:List Nat}{b:Nat}{c:Array Value}(h:RdN w v l) (hB:Blk w b c) (hc:∀x∈c.toList,∀n:Nat,x≠L64 n):Rd (fun g=>g≠b) w v (l.map L64):=by
 obtain⟨a,k,h1,h2,h3,h4,h5⟩:=h
 obtain⟨hb,T,hh⟩:=hB
 refine⟨a,k,h1,h2,h3,h4,fun j u hj=>?_⟩
 obtain⟨g,off,e1,_,e3⟩:=h5 j u hj
 refine⟨g,off,e1,fun e=>?_,e3⟩
 subst e
 rw[World.cell?,hh]at e3
 obtain⟨n,-,rfl⟩:=List.mem_map.1 (List.mem_of_getElem? hj)
 have e4:c[off+j]?=some (L64 n):=by simpa using e3
 exact hc _ (by rw[←Array.getElem?_toList]at e4;exact List.mem_of_getElem? e4) n rfl
theorem RdN.set3 {w:World}{v:Value}{l:List Nat}{b:Nat}{c:Array Value}(h:RdN w v l) (hB:Blk w b c) (hc:∀x∈c.toList,∀n:Nat,x≠L64 n) (x y z:Value):
 RdN (((w.setCell ⟨b,0,none⟩ x).setCell ⟨b,1,none⟩ y).setCell ⟨b,2,none⟩ z) v l:=by
 have h2:=(h.away hB hc).keep (S:=fun g=>g=b) ((((Fr.refl (fun g=>g=b) w).setCell (p:=⟨b,0,none⟩) rfl x).setCell (p:=⟨b,1,none⟩) rfl y).setCell (p:=⟨b,2,none⟩) rfl z) (fun _ h=>h)
 exact h2.mono (fun _ _ _=>trivial)
theorem dcells {p:Bool}{a:Option Addr}{n k:Nat}{e:Int}:∀x∈(#[.bool p,.slice a n k,.int .i64 e]:Array Value).toList,∀m:Nat,x≠L64 m:=by
 intro x hx m
 simp at hx
 rcases hx with rfl|rfl|rfl<;>simp[L64]
theorem cut_n {w:World}{e:Int}:Calls Tryz.prog 117 #[.int .i64 e] w (fun r w'=>r= .returned (.int .i64 (cutE e))∧w'=w):=by
 unfold cutE
 go_enter Tryz.func117,Tryz.ntmps117
 go_wp2
 go_ret
 exact⟨rfl,rfl⟩
set_option maxHeartbeats 800000 in
theorem dbare_n {w:World}{d:Value}{D:Dn}(h:Dv w d D) (hT:Tab w):Calls Tryz.prog 80 #[d] w (fun e w'=>∃v,e= .returned v∧Db w' v (bareD D)∧Below w.heap.size w w'):=by
 obtain⟨v,rfl,hM,hE1,hE2⟩:=h
 have sM:=hM.bound
 obtain⟨neg,M,E⟩:=D
 simp only at hM hE1 hE2 sM⊢
 by_cases h0:M=0
 ·subst h0
  rw[bareD_zero rfl]
  go_enter Tryz.func80,Tryz.ntmps80
  go_wp2_with
   (first
     |(go_at_call 75;(with_reducible refine(bare_n (hM.below below_2)).mono ?_);rintro e w1 ⟨vs1,rfl,s1,hb1⟩;have B1:=below_2.trans (hb1.mono below_2.size);have m1:=((hM.below below_2)).below hb1;have T1:=((hT.below below_2)).below hb1;have P1:=((blk_a1)).below hb1;have R1:=((blk_a2)).below hb1;obtain⟨cP0_1,cP1_1,cP2_1,fP0_1,fP1_1,fP2_1,sP_1⟩:=P1.open3;obtain⟨cR0_1,cR1_1,cR2_1,fR0_1,fR1_1,fR2_1,sR_1⟩:=R1.open3;obtain⟨as1,ks1,rfl⟩:=s1.rnone)
     |fail)
  obtain⟨q0,q1,q2,-⟩:=(R1.set3 (.bool false) (.slice none 0 0) (.int .i64 0)).open3
  refine bodyPost_ret (v:= .agg #[.bool false,.slice none 0 0,.int .i64 0]) (by simp[results,Tryz.results80,go_sem,q0,q1,q2]) rfl ⟨_,rfl,⟨_,rfl,RdN.nil0 _⟩,?_⟩
  exact below_set (below_set (below_set B1 (by omega) _) (by omega) _) (by omega) _
 ·have hsn:digs BB M≠[]:=fun e=>h0 ((digs_nil_iff BB_two _).1 e)
  have hsb:(((digs BB M).length:Int)==0)=false:=beq_false_of_ne (by have:=List.length_pos_iff.2 hsn;omega)
  rw[bareD_pos h0]
  have hl:=low2_lt h0
  generalize hk:low2 M=k at*
  generalize hO:M/2^k=O at*
  have ek:=Lib.hid hk;have eO:=Lib.hid hO
  have hkM:k≤9223372036854775807:=by omega
  obtain⟨c1,c2⟩:=cutE_range E
  generalize hc:cutE E=c at*
  have HC:=Lib.hid (fun w=>cut_n (w:=w) (e:=E))
  rw[hc]at HC
  clear hk hO hc
  go_enter Tryz.func80,Tryz.ntmps80
  go_wp2_with
   (first
     |(go_at_call 75;(with_reducible refine(bare_n (hM.below below_2)).mono ?_);rintro e w1 ⟨vs1,rfl,s1,hb1⟩;have B1:=below_2.trans (hb1.mono below_2.size);have m1:=((hM.below below_2)).below hb1;have T1:=((hT.below below_2)).below hb1;have P1:=((blk_a1)).below hb1;have R1:=((blk_a2)).below hb1;obtain⟨cP0_1,cP1_1,cP2_1,fP0_1,fP1_1,fP2_1,sP_1⟩:=P1.open3;obtain⟨cR0_1,cR1_1,cR2_1,fR0_1,fR1_1,fR2_1,sR_1⟩:=R1.open3;obtain⟨as1,ks1,rfl,-⟩:=s1.view;try simp only[List.length_nil]at s1)
     |(go_at_call 115;(with_reducible refine(low_n (s1.num sM) T1 h0 ek.out).mono ?_);rintro e w2 ⟨rfl,rfl⟩)
     |(go_at_call 116;(with_reducible refine(shr_n (s1.num sM) T1 eO.out hkM).mono ?_);rintro e w3 ⟨vq3,rfl,q3,hb3⟩;have B3:=B1.trans (hb3.mono B1.size);have m3:=m1.below hb3;have T3:=T1.below hb3;have P3:=P1.below hb3;have R3:=R1.below hb3;have s3:=s1.below hb3;clear m1 T1 P1 R1 s1;obtain⟨cP0_3,cP1_3,cP2_3,fP0_3,fP1_3,fP2_3,sP_3⟩:=P3.open3;obtain⟨cR0_3,cR1_3,cR2_3,fR0_3,fR1_3,fR2_3,sR_3⟩:=R3.open3;obtain⟨aq3,kq3,rfl,-⟩:=q3.view;try simp only[List.length_nil]at q3)
     |fail)
  have hadd:IntKind.i64.wrap (c+(k:Int))=c+(k:Int):=by rw[IntKind.wrap_i64];omega
  go_still_tail 8,(by kernel_rfl)
  still_call (HC.out _)
  repeat still_step
  refine wpStill_nil ?_
  change wpList _ _ _ _ _ w3.drew
  have RD:Blk w3.drew _ _:=R3.below (below_drewN (Below.refl _ _) 1)
  have BD:Below w.heap.size w w3.drew:=below_drewN B3 1
  have QD:RdN w3.drew _ _:=q3.below (below_drewN (Below.refl _ _) 1)
  clear cP0_3 cP1_3 cP2_3 fP0_3 fP1_3 fP2_3 sP_3 cR0_3 cR1_3 cR2_3 fR0_3 fR1_3 fR2_3 sR_3 P3 R3 B3 q3 m3 T3
  generalize w3.drew=w4 at*
  obtain⟨cR0,cR1,cR2,fR0,fR1,fR2,sR⟩:=RD.open3
  go_wp2
  obtain⟨q0,q1,q2,-⟩:=(RD.set3 (.bool neg) (.slice aq3 (digs BB O).length kq3) (.int .i64 (c+(k:Int)))).open3
  refine bodyPost_ret (v:= .agg #[.bool neg,.slice aq3 (digs BB O).length kq3,.int .i64 (c+(k:Int))]) ?_ rfl ?_
  ·simp[results,Tryz.results80,go_sem,q0,q1,q2]
  ·exact⟨_,rfl,⟨_,rfl,QD.set3 RD dcells _ _ _⟩,below_set (below_set (below_set BD (by omega) _) (by omega) _) (by omega) _⟩
end Go.Proofs.YtffaefjkpipjnaaGreatDoor
namespace Go.Proofs.YtffaefjkpipjnaaGreatDoor
set_option maxRecDepth 100000
open Go.RowKit Go.ChangeShapes Go.WideShapes
set_option linter.unusedVariables false
theorem Blk.open6 {w:World}{b:Nat}{x0 x1 x2 x3 x4 x5:Value}(h:Blk w b #[x0,x1,x2,x3,x4,x5]):w.cell? ⟨b,0,none⟩=some x0∧w.cell? ⟨b,1,none⟩=some x1∧w.cell? ⟨b,2,none⟩=some x2∧w.cell? ⟨b,3,none⟩=some x3∧w.cell? ⟨b,4,none⟩=some x4∧w.cell? ⟨b,5,none⟩=some x5∧
 w.frozen? ⟨b,0,none⟩=false∧w.frozen? ⟨b,1,none⟩=false∧w.frozen? ⟨b,2,none⟩=false∧w.frozen? ⟨b,3,none⟩=false∧w.frozen? ⟨b,4,none⟩=false∧w.frozen? ⟨b,5,none⟩=false∧b<w.heap.size:=by
 obtain⟨h1,T,h2⟩:=h
 exact⟨cell_at h2 rfl,cell_at h2 rfl,cell_at h2 rfl,cell_at h2 rfl,cell_at h2 rfl,cell_at h2 rfl,free_at h2,free_at h2,free_at h2,free_at h2,free_at h2,free_at h2,h1⟩
theorem Blk.set6 {w:World}{b:Nat}{x0 x1 x2 x3 x4 x5:Value}(h:Blk w b #[x0,x1,x2,x3,x4,x5]) (y0 y1 y2 y3 y4 y5:Value):Blk ((((((w.setCell ⟨b,0,none⟩ y0).setCell ⟨b,1,none⟩ y1).setCell ⟨b,2,none⟩ y2).setCell ⟨b,3,none⟩ y3).setCell ⟨b,4,none⟩ y4).setCell ⟨b,5,none⟩ y5) b #[y0,y1,y2,y3,y4,y5]:=by
 obtain⟨h1,T,h2⟩:=h
 exact⟨by simpa[World.setCell]using h1,T,heap_setC (heap_setC (heap_setC (heap_setC (heap_setC (heap_setC h2 y0) y1) y2) y3) y4) y5⟩
theorem RdN.set6 {w:World}{v:Value}{l:List Nat}{b:Nat}{c:Array Value}(h:RdN w v l) (hB:Blk w b c) (hc:∀x∈c.toList,∀n:Nat,x≠L64 n) (y0 y1 y2 y3 y4 y5:Value):
 RdN ((((((w.setCell ⟨b,0,none⟩ y0).setCell ⟨b,1,none⟩ y1).setCell ⟨b,2,none⟩ y2).setCell ⟨b,3,none⟩ y3).setCell ⟨b,4,none⟩ y4).setCell ⟨b,5,none⟩ y5) v l:=by
 have h2:=(h.away hB hc).keep (S:=fun g=>g=b) (((((((Fr.refl (fun g=>g=b) w).setCell (p:=⟨b,0,none⟩) rfl y0).setCell (p:=⟨b,1,none⟩) rfl y1).setCell (p:=⟨b,2,none⟩) rfl y2).setCell (p:=⟨b,3,none⟩) rfl y3).setCell (p:=⟨b,4,none⟩) rfl y4).setCell (p:=⟨b,5,none⟩) rfl y5) (fun _ h=>h)
 exact h2.mono (fun _ _ _=>trivial)
theorem dcells6 {p q:Bool}{a c:Option Addr}{n k m j:Nat}{e f:Int}:∀x∈(#[.bool p,.slice a n k,.int .i64 e,.bool q,.slice c m j,.int .i64 f]:Array Value).toList,∀i:Nat,x≠L64 i:=by
 intro x hx i
 simp at hx
 rcases hx with rfl|rfl|rfl|rfl|rfl|rfl<;>simp[L64]
theorem below_set6 {w w':World}(h:Below w.heap.size w w') {b:Nat}(hb:w.heap.size≤b) (y0 y1 y2 y3 y4 y5:Value):Below w.heap.size w ((((((w'.setCell ⟨b,0,none⟩ y0).setCell ⟨b,1,none⟩ y1).setCell ⟨b,2,none⟩ y2).setCell ⟨b,3,none⟩ y3).setCell ⟨b,4,none⟩ y4).setCell ⟨b,5,none⟩ y5):=
 below_set (below_set (below_set (below_set (below_set (below_set h hb y0) hb y1) hb y2) hb y3) hb y4) hb y5
end Go.Proofs.YtffaefjkpipjnaaGreatDoor
namespace Go.Proofs.YtffaefjkpipjnaaGreatDoor
set_option maxRecDepth 100000
open Go.RowKit Go.ChangeShapes Go.WideShapes
set_option linter.unusedVariables false
theorem Blk.open2 {w:World}{b:Nat}{x y:Value}(h:Blk w b #[x,y]):w.cell? ⟨b,0,none⟩=some x∧w.cell? ⟨b,1,none⟩=some y∧w.frozen? ⟨b,0,none⟩=false∧w.frozen? ⟨b,1,none⟩=false∧b<w.heap.size:=by
 obtain⟨h1,T,h2⟩:=h
 exact⟨cell_at h2 rfl,cell_at h2 rfl,free_at h2,free_at h2,h1⟩
theorem Blk.set2 {w:World}{b:Nat}{x y:Value}(h:Blk w b #[x,y]) (x' y':Value):Blk ((w.setCell ⟨b,0,none⟩ x').setCell ⟨b,1,none⟩ y') b #[x',y']:=by
 obtain⟨h1,T,h2⟩:=h
 exact⟨by simpa[World.setCell]using h1,T,heap_setC (heap_setC h2 x') y'⟩
theorem RdN.set2 {w:World}{v:Value}{l:List Nat}{b:Nat}{c:Array Value}(h:RdN w v l) (hB:Blk w b c) (hc:∀x∈c.toList,∀n:Nat,x≠L64 n) (x y:Value):
 RdN ((w.setCell ⟨b,0,none⟩ x).setCell ⟨b,1,none⟩ y) v l:=by
 have h2:=(h.away hB hc).keep (S:=fun g=>g=b) (((Fr.refl (fun g=>g=b) w).setCell (p:=⟨b,0,none⟩) rfl x).setCell (p:=⟨b,1,none⟩) rfl y) (fun _ h=>h)
 exact h2.mono (fun _ _ _=>trivial)
theorem pcells {a b:Option Addr}{n m k j:Nat}:∀x∈(#[.slice a n k,.slice b m j]:Array Value).toList,∀i:Nat,x≠L64 i:=by
 intro x hx i
 simp at hx
 rcases hx with rfl|rfl<;>simp[L64]
theorem blk3_1 {w:World}{c:Array Value}{T:TypeId}{o o':Obj}:Blk (((w.alloc (.cells c T (0,0))).alloc o).alloc o') w.heap.size c:=blk_a1.below (below_alloc _ _)
theorem blk3_2 {w:World}{c:Array Value}{T:TypeId}{o o':Obj}:Blk (((w.alloc o).alloc (.cells c T (0,0))).alloc o') (w.heap.size+1) c:=blk_a2.below (below_alloc _ _)
theorem blk3_3 {w:World}{c:Array Value}{T:TypeId}{o o':Obj}:Blk (((w.alloc o).alloc o').alloc (.cells c T (0,0))) (w.heap.size+1+1) c:=by
 have h:Blk (((w.alloc o).alloc o').alloc (.cells c T (0,0))) ((w.alloc o).alloc o').heap.size c:=blk_new
 simpa using h
theorem below_3 {w:World}{o1 o2 o3:Obj}:Below w.heap.size w (((w.alloc o1).alloc o2).alloc o3):=below_a below_2
theorem Blk.other2 {w:World}{b b':Nat}{c:Array Value}(h:Blk w b c) (hne:b≠b') (y0 y1:Value):Blk ((w.setCell ⟨b',0,none⟩ y0).setCell ⟨b',1,none⟩ y1) b c:=by
 obtain⟨h1,T,h2⟩:=h
 exact⟨by simpa[World.setCell]using h1,T,heap_setO (heap_setO h2 y0 hne) y1 hne⟩
theorem Tab.set3 {w:World}{b:Nat}(h:Tab w) (hb:0≠b) (x y z:Value):Tab (((w.setCell ⟨b,0,none⟩ x).setCell ⟨b,1,none⟩ y).setCell ⟨b,2,none⟩ z):=
 h.fr ((((Fr.refl (fun g=>g=b) w).setCell (p:=⟨b,0,none⟩) rfl x).setCell (p:=⟨b,1,none⟩) rfl y).setCell (p:=⟨b,2,none⟩) rfl z) hb
end Go.Proofs.YtffaefjkpipjnaaGreatDoor
namespace Go.Proofs.YtffaefjkpipjnaaGreatDoor
set_option maxRecDepth 100000
open Go.RowKit Go.ChangeShapes Go.WideShapes
theorem Blk.other3 {w:World}{b b':Nat}{c:Array Value}(h:Blk w b c) (hne:b≠b') (x y z:Value):Blk (((w.setCell ⟨b',0,none⟩ x).setCell ⟨b',1,none⟩ y).setCell ⟨b',2,none⟩ z) b c:=by
 obtain⟨h1,T,h2⟩:=h
 exact⟨by simpa[World.setCell]using h1,T,heap_setO (heap_setO (heap_setO h2 x hne) y hne) z hne⟩
theorem below_set3 {w w':World}(h:Below w.heap.size w w') {b:Nat}(hb:w.heap.size≤b) (x y z:Value):Below w.heap.size w (((w'.setCell ⟨b,0,none⟩ x).setCell ⟨b,1,none⟩ y).setCell ⟨b,2,none⟩ z):=
 below_set (below_set (below_set h hb x) hb y) hb z
theorem bare_d {w:World}{v:Value}{neg n':Bool}{M M':Nat}{E E':Int}(h:Num w v M) (hT:Tab w) (h1: -9223372036854775808≤E) (h2:E≤9223372036854775807) (e:bareD ⟨neg,M,E⟩=⟨n',M',E'⟩):
 Calls Tryz.prog 80 #[.agg #[.bool neg,v,.int .i64 E]] w (fun e w'=>∃v,e= .returned v∧Db w' v ⟨n',M',E'⟩∧Below w.heap.size w w'):=by
 rw[←e]
 exact dbare_n ⟨v,rfl,h,h1,h2⟩ hT
set_option maxHeartbeats 800000 in
theorem Bare_ok {w:World}{v:Value}{neg n':Bool}{M M':Nat}{E E':Int}(h:Num w v M) (hT:Tab w) (h1: -9223372036854775808≤E) (h2:E≤9223372036854775807) (e:bareD ⟨neg,M,E⟩=⟨n',M',E'⟩) (hf:fitsE E'=true):
 Calls Tryz.prog 74 #[.agg #[.bool neg,v,.int .i64 E]] w (fun e w'=>∃v,e= .returned (.tuple #[.agg #[.bool n',v,.int .i64 E'],.int .i64 0])∧RdN w' v (digs BB M')∧Below w.heap.size w w'):=by
 obtain⟨a,n,k,rfl⟩:=h.slice
 have e:=Lib.hid e
 have d1:decide (E'< -1073741824)=false:=by unfold fitsE at hf;simp at hf;exact decide_eq_false (by omega)
 have d2:decide (1073741824<E')=false:=by unfold fitsE at hf;simp at hf;exact decide_eq_false (by omega)
 clear hf
 go_enter Tryz.func74,Tryz.ntmps74
 go_wp2_with
  (first
    |(go_at_call 80;(with_reducible refine(bare_d (h.below below_2) (hT.below below_2) h1 h2 e.out).mono ?_);rintro e w1 ⟨vd1,rfl,d1,hb1⟩;have B1:=below_2.trans (hb1.mono below_2.size);have m1:=((h.below below_2)).below hb1;have T1:=((hT.below below_2)).below hb1;have P1:=((blk_a1)).below hb1;have R1:=((blk_a2)).below hb1;obtain⟨cP0_1,cP1_1,cP2_1,fP0_1,fP1_1,fP2_1,sP_1⟩:=P1.open3;obtain⟨cR0_1,cR1_1,cR2_1,fR0_1,fR1_1,fR2_1,sR_1⟩:=R1.open3;obtain⟨ud1,rfl,d1⟩:=d1;obtain⟨ad1,kd1,rfl,-⟩:=d1.view)
    |fail)
 obtain⟨q0,q1,q2,-⟩:=((R1.other3 (b':=w.heap.size) (by omega) (.bool n') (.slice ad1 (digs BB M').length kd1) (.int .i64 E')).set3 (.bool n') (.slice ad1 (digs BB M').length kd1) (.int .i64 E')).open3
 refine bodyPost_ret (v:= .tuple #[.agg #[.bool n',.slice ad1 (digs BB M').length kd1,.int .i64 E'],.int .i64 0]) ?_ rfl ?_
 ·simp[results,Tryz.results74,go_sem,q0,q1,q2]
 ·exact⟨_,rfl,(d1.set3 P1 dcells _ _ _).set3 (R1.other3 (by omega) _ _ _) dcells _ _ _,below_set3 (below_set3 B1 (by omega) _ _ _) (by omega) _ _ _⟩
set_option maxHeartbeats 800000 in
theorem Bare_long {w:World}{v:Value}{neg n':Bool}{M M':Nat}{E E':Int}(h:Num w v M) (hT:Tab w) (h1: -9223372036854775808≤E) (h2:E≤9223372036854775807) (e:bareD ⟨neg,M,E⟩=⟨n',M',E'⟩) (hf:fitsE E'=false):
 Calls Tryz.prog 74 #[.agg #[.bool neg,v,.int .i64 E]] w (fun e w'=>e= .returned (.tuple #[.agg #[.bool false,.slice none 0 0,.int .i64 0],.int .i64 2])∧Below w.heap.size w w'):=by
 obtain⟨a,n,k,rfl⟩:=h.slice
 have e:=Lib.hid e
 have d3:(decide (E'< -1073741824)||decide (1073741824<E'))=true:=by
  unfold fitsE at hf;simp at hf⊢;omega
 by_cases d1:E'< -1073741824
 all_goals
  clear d3
  have d2:1073741824<E'∨E'< -1073741824:=by unfold fitsE at hf;simp at hf;omega
  clear hf
  go_enter Tryz.func74,Tryz.ntmps74
  go_wp2_with
   (first
     |(go_at_call 80;(with_reducible refine(bare_d (h.below below_2) (hT.below below_2) h1 h2 e.out).mono ?_);rintro e w1 ⟨vd1,rfl,d1,hb1⟩;have B1:=below_2.trans (hb1.mono below_2.size);have m1:=((h.below below_2)).below hb1;have T1:=((hT.below below_2)).below hb1;have P1:=((blk_a1)).below hb1;have R1:=((blk_a2)).below hb1;obtain⟨cP0_1,cP1_1,cP2_1,fP0_1,fP1_1,fP2_1,sP_1⟩:=P1.open3;obtain⟨cR0_1,cR1_1,cR2_1,fR0_1,fR1_1,fR2_1,sR_1⟩:=R1.open3;obtain⟨ud1,rfl,d1⟩:=d1;obtain⟨ad1,kd1,rfl,-⟩:=d1.view)
     |fail)
  obtain⟨q0,q1,q2,-⟩:=((R1.other3 (b':=w.heap.size) (by omega) (.bool n') (.slice ad1 (digs BB M').length kd1) (.int .i64 E')).set3 (.bool false) (.slice none 0 0) (.int .i64 0)).open3
  refine bodyPost_ret (v:= .tuple #[.agg #[.bool false,.slice none 0 0,.int .i64 0],.int .i64 2]) ?_ rfl ?_
  ·simp[results,Tryz.results74,go_sem,q0,q1,q2]
  ·exact⟨rfl,below_set3 (below_set3 B1 (by omega) _ _ _) (by omega) _ _ _⟩
theorem Sign_n {w:World}{v:Value}{neg:Bool}{M:Nat}{E s:Int}(h:Num w v M) (e:signD ⟨neg,M,E⟩=s):
 Calls Tryz.prog 26 #[.agg #[.bool neg,v,.int .i64 E]] w (fun e w'=>e= .returned (.int .i64 s)∧Below w.heap.size w w'):=by
 obtain⟨a,n,k,rfl⟩:=h.slice
 have sM:=h.bound
 obtain⟨b,hb⟩:∃b,bitN M=b:=⟨_,rfl⟩
 have eb:=Lib.hid hb
 unfold signD at e
 simp only at e
 by_cases h0:M=0
 ·obtain rfl:b=0:=by rw[←hb,h0,bitN_zero]
  rw[if_pos h0]at e
  subst e
  clear hb
  go_enter Tryz.func26,Tryz.ntmps26
  go_wp2_with
   (first
     |(go_at_call 48;(with_reducible refine(bits_n (h.below (below_alloc _ _)) eb.out).mono ?_);rintro e w1 ⟨rfl,hb1⟩;have B1:=(below_alloc _ _).trans (hb1.mono (below_alloc _ _).size);have m1:=((h.below (below_alloc _ _))).below hb1;have P1:=((blk_new)).below hb1;obtain⟨cP0_1,cP1_1,cP2_1,fP0_1,fP1_1,fP2_1,sP_1⟩:=P1.open3)
     |fail)
  all_goals
   go_ret
   exact⟨rfl,by assumption⟩
 ·rw[if_neg h0]at e
  have hbi:(b:Int)≠0:=by have:=bitN_pos h0;omega
  have hbq:((b:Int)==0)=false:=beq_false_of_ne hbi
  clear hb
  cases neg
  all_goals
   simp only[Bool.false_eq_true,ite_true,ite_false]at e
   subst e
   go_enter Tryz.func26,Tryz.ntmps26
   go_wp2_with
    (first
      |(go_at_call 48;(with_reducible refine(bits_n (h.below (below_alloc _ _)) eb.out).mono ?_);rintro e w1 ⟨rfl,hb1⟩;have B1:=(below_alloc _ _).trans (hb1.mono (below_alloc _ _).size);have m1:=((h.below (below_alloc _ _))).below hb1;have P1:=((blk_new)).below hb1;obtain⟨cP0_1,cP1_1,cP2_1,fP0_1,fP1_1,fP2_1,sP_1⟩:=P1.open3)
      |fail)
   all_goals
    go_ret
    exact⟨rfl,by assumption⟩
set_option maxHeartbeats 800000 in
theorem Top_n {w:World}{v:Value}{neg n':Bool}{M M':Nat}{E E':Int}(h:Num w v M) (hT:Tab w) (h1: -9223372036854775808≤E) (h2:E≤9223372036854775807) (e:bareD ⟨neg,M,E⟩=⟨n',M',E'⟩) (h0:M≠0):
 Calls Tryz.prog 69 #[.agg #[.bool neg,v,.int .i64 E]] w (fun e w'=>e= .returned (.tuple #[.int .i64 (topD ⟨n',M',E'⟩),.bool true])∧Below w.heap.size w w'):=by
 obtain⟨a,n,k,rfl⟩:=h.slice
 have sM:=h.bound
 have hM':M'≠0:=by
  have:=(bareD_m_zero ⟨neg,M,E⟩)
  rw[e]at this
  exact fun h=>h0 (this.1 h)
 have sM':bitN M'≤2560000:=by
  have:=bareD_m_le ⟨neg,M,E⟩
  rw[e]at this
  exact Nat.le_trans (bitN_mono this) sM
 have hE': -2147483648≤E'∧E'≤2147483648+2560000:=by
  rw[bareD_pos h0]at e
  injection e with e1 e2 e3
  have h3:=cutE_range E
  have h4:=low2_lt h0
  simp only at e3
  omega
 have hsn:digs BB M'≠[]:=fun e=>hM' ((digs_nil_iff BB_two _).1 e)
 have hsb:(((digs BB M').length:Int)==0)=false:=beq_false_of_ne (by have:=List.length_pos_iff.2 hsn;omega)
 have hsi:((digs BB M').length:Int)≠0:=by have:=List.length_pos_iff.2 hsn;omega
 unfold topD
 simp only
 have e:=Lib.hid e
 obtain⟨b,hb⟩:∃b,bitN M'=b:=⟨_,rfl⟩
 have eb:=Lib.hid hb
 rw[hb]
 obtain⟨t,ht⟩:∃t:Int,(b:Int)-1+E'=t:=⟨_,rfl⟩
 have hw:IntKind.i64.wrap (IntKind.i64.wrap ((b:Int)-1)+E')=t:=by
  rw[IntKind.wrap_i64,IntKind.wrap_i64];omega
 rw[ht]
 go_enter Tryz.func69,Tryz.ntmps69
 go_wp2_with
  (first
    |(go_at_call 80;(with_reducible refine(bare_d (h.below (below_alloc _ _)) (hT.below (below_alloc _ _)) h1 h2 e.out).mono ?_);rintro e w1 ⟨vd1,rfl,d1,hb1⟩;have B1:=(below_alloc _ _).trans (hb1.mono (below_alloc _ _).size);have m1:=((h.below (below_alloc _ _))).below hb1;have T1:=((hT.below (below_alloc _ _))).below hb1;have P1:=((blk_new)).below hb1;obtain⟨cP0_1,cP1_1,cP2_1,fP0_1,fP1_1,fP2_1,sP_1⟩:=P1.open3;obtain⟨ud1,rfl,d1⟩:=d1;obtain⟨ad1,kd1,rfl,-⟩:=d1.view)
    |fail)
 have B2:=below_set3 B1 (Nat.le_refl _) (.bool n') (.slice ad1 (digs BB M').length kd1) (.int .i64 E')
 have P2:=P1.set3 (.bool n') (.slice ad1 (digs BB M').length kd1) (.int .i64 E')
 have D2:=d1.set3 P1 dcells (.bool n') (.slice ad1 (digs BB M').length kd1) (.int .i64 E')
 clear P1 d1 B1 m1 T1 cP0_1 cP1_1 cP2_1 fP0_1 fP1_1 fP2_1 sP_1 hb1
 generalize ((w1.setCell _ _).setCell _ _).setCell _ _=w2 at*
 have BD:Below w.heap.size w w2.drew:=below_drewN B2 1
 have PD:Blk w2.drew _ _:=P2.below (below_drewN (Below.refl _ _) 1)
 have DD':RdN w2.drew _ _:=D2.below (below_drewN (Below.refl _ _) 1)
 obtain⟨cP0_1,cP1_1,cP2_1,fP0_1,fP1_1,fP2_1,sP_1⟩:=PD.open3
 go_region_with
  (first
    |(go_at_call 48;(with_reducible refine(bits_n (DD'.num sM') eb.out).mono ?_);rintro e w2 ⟨rfl,hb2⟩;have B2:=BD.trans (hb2.mono BD.size);have d2:=(DD').below hb2;have P2:=PD.below hb2;clear PD;obtain⟨cP0_2,cP1_2,cP2_2,fP0_2,fP1_2,fP2_2,sP_2⟩:=P2.open3)
    |fail)
 all_goals
  go_wp2_with fail
  go_ret2
  refine⟨?_,by assumption⟩
  simp[Act.put]
end Go.Proofs.YtffaefjkpipjnaaGreatDoor
namespace Go.Proofs.YtffaefjkpipjnaaGreatDoor
set_option maxRecDepth 100000
open Go.RowKit Go.ChangeShapes Go.WideShapes
structure Wid (w:World) (l:List Nat) (wh pt k cy:Nat) (X:List Nat) (v:Value) (wr:World):Prop where
 le:k≤l.length
 len:X.length=wh+k
 dig:Dig BB X
 low:cy<2^pt
 sum:val BB X+BB^(wh+k)*cy=BB^wh*(val BB (l.take k)*2^pt)
 own:wr.ownsRow w.heap.size 22 1 v X.length (X.map L64)
 below:Below w.heap.size w wr
theorem Wid.step {w wr wr':World}{l X:List Nat}{wh pt k cy:Nat}{v v':Value}(h:Wid w l wh pt k cy X v wr) (hp:pt<64) (hl:Dig BB l) (hk:k<l.length)
 (ho:wr'.ownsRow w.heap.size 22 1 v' (X.length+1) (X.map L64++[L64 (l.getD k 0*2^pt%BB+cy)])) (hb:Below w.heap.size w wr'):
 Wid w l wh pt (k+1) (l.getD k 0/2^(64-pt)) (X++[l.getD k 0*2^pt%BB+cy]) v' wr':=by
 have hx:=hl.getD BB_pos k
 have hPR:2^pt*2^(64-pt)=BB:=by rw[←Nat.pow_add,show pt+(64-pt)=64 by omega,BB_pow]
 have hP:0<2^pt:=Nat.pow_pos (by omega)
 have hdiv:l.getD k 0*2^pt/BB=l.getD k 0/2^(64-pt):=by rw[←hPR,Nat.mul_comm (2^pt)];exact Nat.mul_div_mul_right _ _ hP
 have hor:=(or_low' (x:=l.getD k 0) (show pt≤64 by omega) h.low).2
 have hc:l.getD k 0/2^(64-pt)<2^pt:=by
  rw[Nat.div_lt_iff_lt_mul (Nat.pow_pos (by omega)),hPR];exact hx
 have e:=Nat.mod_add_div (l.getD k 0*2^pt) BB
 rw[hdiv]at e
 have hs:=h.sum
 refine⟨hk,by rw[List.length_append,h.len];rfl,h.dig.append (Dig.cons hor (Dig.nil _)),hc,?_,by rw[List.length_append,List.map_append];exact ho,hb⟩
 rw[val_append,val_one,h.len,val_take_succ]
 generalize l.getD k 0*2^pt%BB=lo at*
 generalize l.getD k 0/2^(64-pt)=hi at*
 generalize l.getD k 0=x at*
 have e2:=congrArg (BB^(wh+k)*·) e
 simp only[Nat.mul_add]at e2
 rw[show wh+(k+1)=wh+k+1 by omega,Nat.pow_succ,Nat.mul_assoc,Nat.mul_add,Nat.add_mul,Nat.mul_add]
 have e3:BB^wh*(BB^k*x*2^pt)=BB^(wh+k)*(x*2^pt):=by rw[Nat.pow_add,Nat.mul_assoc,Nat.mul_assoc]
 rw[e3]
 omega
theorem Wid.fin {w wr wr':World}{l X:List Nat}{wh pt cy:Nat}{v v':Value}(h:Wid w l wh pt l.length cy X v wr) (hp:pt<64) (hl:wh+l.length+1≤40000)
 (ho:wr'.ownsRow w.heap.size 22 1 v' (X.length+1) (X.map L64++[L64 cy])):Num wr' v' (val BB l*2^(64*wh+pt)):=by
 have hc:cy<BB:=by
  refine Nat.lt_of_lt_of_le h.low ?_
  rw[BB_pow];exact Nat.pow_le_pow_right (by omega) (by omega)
 have e:val BB (X++[cy])=val BB l*2^(64*wh+pt):=by
  rw[val_append,val_one,h.len,h.sum,List.take_length,Nat.pow_add,Nat.pow_mul,←BB_pow,Nat.mul_left_comm]
 rw[←e]
 have h2:RdN wr' v' (X++[cy]):=Rd.of_own (by rw[List.map_append];exact ho) (fun _ _=>trivial)
 exact h2.numl (h.dig.append (Dig.cons hc (Dig.nil _))) (by rw[List.length_append,h.len];simp;omega)
theorem widened_zero {w:World}{v:Value}{M:Nat}{n:Int}(h:Num w v M) (hn:n≤0):
 Calls Tryz.prog 112 #[v,.int .i64 n] w (fun e w'=>∃v,e= .returned v∧Num w' v M∧Below w.heap.size w w'):=by
 go_enter Tryz.func112,Tryz.ntmps112
 go_wp2
 go_ret
 exact⟨_,rfl,h,Below.refl _ _⟩
set_option maxHeartbeats 800000 in
theorem widened_n {w:World}{v:Value}{M n:Nat}(h:RdN w v (digs BB M)) (hn:0<n) (hs:bitN M+n≤2000000):
 Calls Tryz.prog 112 #[v,.int .i64 n] w (fun e w'=>∃v,e= .returned v∧Num w' v (M*2^n)∧Below w.heap.size w w'):=by
 obtain⟨i0,hi,hz0,hz1,hz2⟩:=info_parts infoU
 obtain⟨wh,hwh⟩:∃x,n/64=x:=⟨_,rfl⟩
 obtain⟨pt,hpt⟩:∃x,n%64=x:=⟨_,rfl⟩
 have hnw:n=64*wh+pt:=by omega
 have hpt64:pt<64:=by omega
 have hwI2:(n:Int).tdiv 64=(wh:Int):=by rw[Int.tdiv_eq_ediv_of_nonneg (by omega)];omega
 have hpI2:(n:Int).tmod 64=(pt:Int):=by rw[Int.tmod_eq_emod_of_nonneg (by omega)];omega
 have hlen:(digs BB M).length+wh≤31252:=by
  have:=digs_short (n:=M) (k:=bitN M/64+1) (by omega)
  omega
 have hwh2:wh≤31250:=by omega
 have hd:=dig_digs BB_two M
 have hv:=val_digs BB_two M
 generalize digs BB M=l at*
 have HNW:=Lib.hid hnw
 clear hwh hpt hnw
 obtain⟨a,c,rfl,hac,hc,-,-⟩:=h.view
 have HL:=Lib.hid h;clear h
 go_enter Tryz.func112,Tryz.ntmps112
 go_wp2_with (at_make;go_loud (refine wpList_make_full _ rfl (.tmp 14) (.tmp 14) 55 rfl w.heap.size 22 i0 (.int .u64 0) 1 Tryz.underlying55 hi hz0 hz1 .i64 .i64 wh wh wh ?_ ?_ rfl rfl ?_ ?_ ?_ ?_;(any_goals (first|rfl|(rw[hz2];omega)|(unfold maxLen;omega)|(with_reducible exact Nat.le_refl _)));intro w0 hown0 hgrow0))
 rw[made_zero]at hown0
 have hst:Wid w l wh pt 0 0 (List.replicate wh 0) (.slice (some ⟨w.heap.size,0,none⟩) wh wh) w0:=⟨Nat.zero_le _,by simp,Dig.replicate BB_pos _,Nat.pow_pos (by omega),by rw[val_replicate,List.take_zero,val_nil];simp,by rw[List.length_replicate];exact hown0,(Below.refl _ _).grown hgrow0 (Nat.le_refl _) (by simp)⟩
 have HST:=Lib.hid hst
 clear hst hown0 hgrow0
 go_loopw [5,7,20] (fun v c i wr=>∃(k cy:Nat) (X:List Nat),i= .int .i64 k∧c=L64 cy∧Wid w l wh pt k cy X v wr) (fun _ _ i _=>l.length-(intOf i).toNat)
 case atStart=>exact⟨0,0,_,rfl,rfl,HST.out⟩
 case round=>
  clear HST
  obtain⟨k,cy,X,rfl,rfl,hR⟩:=hrel
  have HR:=Lib.hid hR
  have hk:=hR.le;have hXl:=hR.len;have hB:=hR.below
  have hsz:=hB.size
  have hown:=hR.own
  by_cases hkn:k<l.length
  ·obtain⟨a',c',e1,-,-,-,hc2⟩:=(HL.out.below hB).view
   injection e1 with e1 e2 e3;subst e1 e3
   obtain⟨g,of,rfl,hg,hcell⟩:=hc2 k hkn
   rw[←List.getD_eq_getElem?_getD]at hcell
   clear hc2 e2
   obtain⟨hor,hob⟩:=or_low' (x:=l.getD k 0) (show pt≤64 by omega) hR.low
   have hXI:IntKind.u64.wrap ((l.getD k 0:Int)*2^pt)=((l.getD k 0*2^pt%BB:Nat):Int):=by rw[IntKind.wrap_u64,show BB=18446744073709551616 from rfl];simp
   have hLI:(l.getD k 0:Int)/2^(64-pt)=((l.getD k 0/2^(64-pt):Nat):Int):=by simp
   have hx:=hd.getD BB_pos k
   have hxb:l.getD k 0/2^(64-pt)≤l.getD k 0:=Nat.div_le_self _ _
   have HS:=Lib.hid (fun(v':Value) (wr':World)=>hR.step (wr':=wr') (v':=v') hpt64 hd hkn)
   clear hR
   generalize l.getD k 0*2^pt%BB=lo at*
   generalize l.getD k 0/2^(64-pt)=hi' at*
   generalize l.getD k 0=x at*
   obtain⟨t,ht⟩:∃t,lo+cy=t:=⟨_,rfl⟩
   rw[ht]at hor hob HS
   clear ht
   have hx64:x<18446744073709551616:=hx
   have hm1:min pt 64=pt:=by omega
   have hm2:min ((64:Int)-(pt:Int)).toNat 64=64-pt:=by omega
   have hW1:IntKind.u64.wrap (t:Int)=(t:Int):=by rw[IntKind.wrap_u64];omega
   have hW2:IntKind.u64.wrap (hi':Int)=(hi':Int):=by rw[IntKind.wrap_u64];omega
   have hW4:IntKind.i64.wrap (64-(pt:Int))=64-(pt:Int):=by rw[IntKind.wrap_i64];omega
   go_wp2_with (at_builtin;go_loud (refine wpList_append_own _ rfl _ _ 55 rfl w.heap.size 22 i0 (.int .u64 0) 1 8 Tryz.underlying55 hi hz0 hz1 hz2 rfl (by decide) _ _ _ rfl (hown.alloc _) ⟨wr.heap.size,0,none⟩ 1 1 [.int .u64 (t:Int)] rfl rfl (cell_one_new _ _ _) (by simp[Value.oneCell']) ?_ ?_ ?_ ?_;(focus(unfold maxLen;omega));(focus omega);(focus(simp;omega));intro v2 w2 hown2 hg2 _;have HS2:=Lib.hid (HS.out _ _ hown2 ((hB.alloc hB.size _).grown hg2 (by simp;omega) (fun k hk=>(hown.lt k hk).1)));clear hown2 hg2))
   go_round
   case rel=>exact⟨k+1,hi',_,by go_num,rfl,HS2.out⟩
   case measure=>simp[intOf];omega
  ·have hkl:k=l.length:=by omega
   subst hkl
   clear hR
   go_wp2_with (at_builtin;go_loud (refine wpList_append_own _ rfl _ _ 55 rfl w.heap.size 22 i0 (.int .u64 0) 1 8 Tryz.underlying55 hi hz0 hz1 hz2 rfl (by decide) _ _ _ rfl (hown.alloc _) ⟨wr.heap.size,0,none⟩ 1 1 [.int .u64 (cy:Int)] rfl rfl (cell_one_new _ _ _) (by simp[Value.oneCell']) ?_ ?_ ?_ ?_;(focus(unfold maxLen;omega));(focus omega);(focus(simp;omega));intro v2 w2 hown2 hg2 _;have HF:=Lib.hid (HR.out.fin hpt64 (by omega) hown2);have HB2:=Lib.hid ((hB.alloc hB.size _).grown hg2 (by simp;omega) (fun k hk=>(hown.lt k hk).1));clear hown2 hg2))
   go_ret
   refine⟨_,rfl,?_,HB2.out⟩
   have:=HF.out
   rw[hv,←HNW.out]at this
   exact this
end Go.Proofs.YtffaefjkpipjnaaGreatDoor
