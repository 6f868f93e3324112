/- dyad.bare and dyad.Bare by their contracts. Conditions: the number is short; math/bits' table stands in its variable. -/
import Derived.Test.YtffaefjkpipjnaaGreatDoorPkC11
import Derived.Test.YtffaefjkpipjnaaGreatDoorPkC01
import Derived.Test.YtffaefjkpipjnaaGreatDoorPkC05
import Derived.Test.YtffaefjkpipjnaaGreatDoorPkC06
import Derived.BigQuiet
import Derived.Deep.QuietTactic
namespace Go.Proofs.YtffaefjkpipjnaaGreatDoor
set_option maxRecDepth 100000
open Go.RowKit Go.ChangeShapes Go.WideShapes
theorem low_n {w:World}{v:Value}{A k:Nat}(h:Num w v A) (hT:Tab w) (h0:A≠0) (e:low2 A=k):Calls Tryz.prog 115 #[v] w (fun e w'=>e= .returned (.int .i64 (k:Int))∧w'=w):=by
 obtain⟨l,h1,h2,h3,rfl⟩:=h
 subst e
 refine(low_any h1 h2 (by omega) hT).mono ?_
 rintro e w' ⟨k,rfl,hk,rfl,-⟩
 rcases hk with⟨h,-⟩|⟨m,hm⟩
 ·exact absurd h h0
 ·exact⟨by rw[low2_uniq hm],rfl⟩
theorem shr_n {w:World}{v:Value}{A n C:Nat}(h:Num w v A) (hT:Tab w) (e:A/2^n=C) (hn:n≤9223372036854775807):Calls Tryz.prog 116 #[v,.int .i64 n] w (fun e w'=>∃v,e= .returned (.tuple #[v,.bool (decide (A%2^n≠0))])∧RdN w' v (digs BB C)∧Below w.heap.size w w'):=by
 obtain⟨l,h1,h2,h3,rfl⟩:=h
 subst e
 exact shr_any h1 h2 (i:=(n:Int)) (by omega) (by omega) (by omega) hT
def Dv (w:World) (d:Value) (D:Dn):Prop:=∃v,d= .agg #[.bool D.neg,v,.int .i64 D.e]∧Num w v D.m∧-9223372036854775808≤D.e∧D.e≤9223372036854775807
def Db (w:World) (d:Value) (D:Dn):Prop:=∃v,d= .agg #[.bool D.neg,v,.int .i64 D.e]∧RdN w v (digs BB D.m)
theorem Num.slice {w:World}{v:Value}{n:Nat}(h:Num w v n):∃a,∃m k:Nat,v= .slice a m k:=by
 obtain⟨l,h1,-⟩:=h
 obtain⟨a,k,h2,-⟩:=h1.view
 exact⟨a,_,k,h2⟩
def Blk (w:World) (b:Nat) (c:Array Value):Prop:=b<w.heap.size∧∃T,w.heap[b]?=some (.cells c T (0,0))
theorem Blk.below {w w':World}{b:Nat}{c:Array Value}(h:Blk w b c) (hb:Below w.heap.size w w'):Blk w' b c:=by
 obtain⟨h1,T,h2⟩:=h
 exact⟨Nat.lt_of_lt_of_le h1 hb.size,T,by rw[hb.block b h1];exact h2⟩
theorem Blk.open3 {w:World}{b:Nat}{x y z:Value}(h:Blk w b #[x,y,z]):w.cell? ⟨b,0,none⟩=some x∧w.cell? ⟨b,1,none⟩=some y∧w.cell? ⟨b,2,none⟩=some z∧w.frozen? ⟨b,0,none⟩=false∧w.frozen? ⟨b,1,none⟩=false∧w.frozen? ⟨b,2,none⟩=false∧b<w.heap.size:=by
 obtain⟨h1,T,h2⟩:=h
 exact⟨cell_at h2 rfl,cell_at h2 rfl,cell_at h2 rfl,free_at h2,free_at h2,free_at h2,h1⟩
theorem blk_new {w:World}{c:Array Value}{T:TypeId}:Blk (w.alloc (.cells c T (0,0))) w.heap.size c:=⟨by simp,T,heap_alloc_new _ _⟩
theorem blk_a1 {w:World}{c:Array Value}{T:TypeId}{o:Obj}:Blk ((w.alloc (.cells c T (0,0))).alloc o) w.heap.size c:=blk_new.below (below_alloc _ _)
theorem blk_a2 {w:World}{c:Array Value}{T:TypeId}{o:Obj}:Blk ((w.alloc o).alloc (.cells c T (0,0))) (w.heap.size+1) c:=
 ⟨by simp,T,heap_new2 _ _ _⟩
theorem Blk.set3 {w:World}{b:Nat}{x y z:Value}(h:Blk w b #[x,y,z]) (x' y' z':Value):Blk (((w.setCell ⟨b,0,none⟩ x').setCell ⟨b,1,none⟩ y').setCell ⟨b,2,none⟩ z') b #[x',y',z']:=by
 obtain⟨h1,T,h2⟩:=h
 exact⟨by simpa[World.setCell]using h1,T,heap_setC (heap_setC (heap_setC h2 x') y') z'⟩
theorem below_2 {w:World}{o1 o2:Obj}:Below w.heap.size w ((w.alloc o1).alloc o2):=below_a (below_alloc _ _)
theorem below_set {w w':World}(h:Below w.heap.size w w') {b j:Nat}(hb:w.heap.size≤b) (v:Value):Below w.heap.size w (w'.setCell ⟨b,j,none⟩ v):=h.setCell hb v
theorem RdN.away {w:World}{v:Value}{l:List Nat}{b:Nat}{c:Array Value}(h:RdN w v l) (hB:Blk w b c) (hc:∀x∈c.toList,∀n:Nat,x≠L64 n):Rd (fun g=>g≠b) w v (l.map L64):=by
 obtain⟨a,k,h1,h2,h3,h4,h5⟩:=h
 obtain⟨hb,T,hh⟩:=hB
 refine⟨a,k,h1,h2,h3,h4,fun j u hj=>?_⟩
 obtain⟨g,off,e1,_,e3⟩:=h5 j u hj
 refine⟨g,off,e1,fun e=>?_,e3⟩
 subst e
 rw[World.cell?,hh]at e3
 obtain⟨n,-,rfl⟩:=List.mem_map.1 (List.mem_of_getElem? hj)
 have e4:c[off+j]?=some (L64 n):=by simpa using e3
 exact hc _ (by rw[←Array.getElem?_toList]at e4;exact List.mem_of_getElem? e4) n rfl
theorem RdN.set3 {w:World}{v:Value}{l:List Nat}{b:Nat}{c:Array Value}(h:RdN w v l) (hB:Blk w b c) (hc:∀x∈c.toList,∀n:Nat,x≠L64 n) (x y z:Value):
 RdN (((w.setCell ⟨b,0,none⟩ x).setCell ⟨b,1,none⟩ y).setCell ⟨b,2,none⟩ z) v l:=by
 have h2:=(h.away hB hc).keep (S:=fun g=>g=b) ((((Fr.refl (fun g=>g=b) w).setCell (p:=⟨b,0,none⟩) rfl x).setCell (p:=⟨b,1,none⟩) rfl y).setCell (p:=⟨b,2,none⟩) rfl z) (fun _ h=>h)
 exact h2.mono (fun _ _ _=>trivial)
theorem dcells {p:Bool}{a:Option Addr}{n k:Nat}{e:Int}:∀x∈(#[.bool p,.slice a n k,.int .i64 e]:Array Value).toList,∀m:Nat,x≠L64 m:=by
 intro x hx m
 simp at hx
 rcases hx with rfl|rfl|rfl<;>simp[L64]
theorem cut_n {w:World}{e:Int}:Calls Tryz.prog 117 #[.int .i64 e] w (fun r w'=>r= .returned (.int .i64 (cutE e))∧w'=w):=by
 unfold cutE
 go_enter Tryz.func117,Tryz.ntmps117
 go_wp2
 go_ret
 exact⟨rfl,rfl⟩
set_option maxHeartbeats 800000 in
theorem dbare_n {w:World}{d:Value}{D:Dn}(h:Dv w d D) (hT:Tab w):Calls Tryz.prog 80 #[d] w (fun e w'=>∃v,e= .returned v∧Db w' v (bareD D)∧Below w.heap.size w w'):=by
 obtain⟨v,rfl,hM,hE1,hE2⟩:=h
 have sM:=hM.bound
 obtain⟨neg,M,E⟩:=D
 simp only at hM hE1 hE2 sM⊢
 by_cases h0:M=0
 ·subst h0
  rw[bareD_zero rfl]
  go_enter Tryz.func80,Tryz.ntmps80
  go_wp2_with
   (first
     |(go_at_call 75;(with_reducible refine(bare_n (hM.below below_2)).mono ?_);rintro e w1 ⟨vs1,rfl,s1,hb1⟩;have B1:=below_2.trans (hb1.mono below_2.size);have m1:=((hM.below below_2)).below hb1;have T1:=((hT.below below_2)).below hb1;have P1:=((blk_a1)).below hb1;have R1:=((blk_a2)).below hb1;obtain⟨cP0_1,cP1_1,cP2_1,fP0_1,fP1_1,fP2_1,sP_1⟩:=P1.open3;obtain⟨cR0_1,cR1_1,cR2_1,fR0_1,fR1_1,fR2_1,sR_1⟩:=R1.open3;obtain⟨as1,ks1,rfl⟩:=s1.rnone)
     |fail)
  obtain⟨q0,q1,q2,-⟩:=(R1.set3 (.bool false) (.slice none 0 0) (.int .i64 0)).open3
  refine bodyPost_ret (v:= .agg #[.bool false,.slice none 0 0,.int .i64 0]) (by simp[results,Tryz.results80,go_sem,q0,q1,q2]) rfl ⟨_,rfl,⟨_,rfl,RdN.nil0 _⟩,?_⟩
  exact below_set (below_set (below_set B1 (by omega) _) (by omega) _) (by omega) _
 ·have hsn:digs BB M≠[]:=fun e=>h0 ((digs_nil_iff BB_two _).1 e)
  have hsb:(((digs BB M).length:Int)==0)=false:=beq_false_of_ne (by have:=List.length_pos_iff.2 hsn;omega)
  rw[bareD_pos h0]
  have hl:=low2_lt h0
  generalize hk:low2 M=k at*
  generalize hO:M/2^k=O at*
  have ek:=Lib.hid hk;have eO:=Lib.hid hO
  have hkM:k≤9223372036854775807:=by omega
  obtain⟨c1,c2⟩:=cutE_range E
  generalize hc:cutE E=c at*
  have HC:=Lib.hid (fun w=>cut_n (w:=w) (e:=E))
  rw[hc]at HC
  clear hk hO hc
  go_enter Tryz.func80,Tryz.ntmps80
  go_wp2_with
   (first
     |(go_at_call 75;(with_reducible refine(bare_n (hM.below below_2)).mono ?_);rintro e w1 ⟨vs1,rfl,s1,hb1⟩;have B1:=below_2.trans (hb1.mono below_2.size);have m1:=((hM.below below_2)).below hb1;have T1:=((hT.below below_2)).below hb1;have P1:=((blk_a1)).below hb1;have R1:=((blk_a2)).below hb1;obtain⟨cP0_1,cP1_1,cP2_1,fP0_1,fP1_1,fP2_1,sP_1⟩:=P1.open3;obtain⟨cR0_1,cR1_1,cR2_1,fR0_1,fR1_1,fR2_1,sR_1⟩:=R1.open3;obtain⟨as1,ks1,rfl,-⟩:=s1.view;try simp only[List.length_nil]at s1)
     |(go_at_call 115;(with_reducible refine(low_n (s1.num sM) T1 h0 ek.out).mono ?_);rintro e w2 ⟨rfl,rfl⟩)
     |(go_at_call 116;(with_reducible refine(shr_n (s1.num sM) T1 eO.out hkM).mono ?_);rintro e w3 ⟨vq3,rfl,q3,hb3⟩;have B3:=B1.trans (hb3.mono B1.size);have m3:=m1.below hb3;have T3:=T1.below hb3;have P3:=P1.below hb3;have R3:=R1.below hb3;have s3:=s1.below hb3;clear m1 T1 P1 R1 s1;obtain⟨cP0_3,cP1_3,cP2_3,fP0_3,fP1_3,fP2_3,sP_3⟩:=P3.open3;obtain⟨cR0_3,cR1_3,cR2_3,fR0_3,fR1_3,fR2_3,sR_3⟩:=R3.open3;obtain⟨aq3,kq3,rfl,-⟩:=q3.view;try simp only[List.length_nil]at q3)
     |fail)
  have hadd:IntKind.i64.wrap (c+(k:Int))=c+(k:Int):=by rw[IntKind.wrap_i64];omega
  go_still_tail 8,(by kernel_rfl)
  still_call (HC.out _)
  repeat still_step
  refine wpStill_nil ?_
  change wpList _ _ _ _ _ w3.drew
  have RD:Blk w3.drew _ _:=R3.below (below_drewN (Below.refl _ _) 1)
  have BD:Below w.heap.size w w3.drew:=below_drewN B3 1
  have QD:RdN w3.drew _ _:=q3.below (below_drewN (Below.refl _ _) 1)
  clear cP0_3 cP1_3 cP2_3 fP0_3 fP1_3 fP2_3 sP_3 cR0_3 cR1_3 cR2_3 fR0_3 fR1_3 fR2_3 sR_3 P3 R3 B3 q3 m3 T3
  generalize w3.drew=w4 at*
  obtain⟨cR0,cR1,cR2,fR0,fR1,fR2,sR⟩:=RD.open3
  go_wp2
  obtain⟨q0,q1,q2,-⟩:=(RD.set3 (.bool neg) (.slice aq3 (digs BB O).length kq3) (.int .i64 (c+(k:Int)))).open3
  refine bodyPost_ret (v:= .agg #[.bool neg,.slice aq3 (digs BB O).length kq3,.int .i64 (c+(k:Int))]) ?_ rfl ?_
  ·simp[results,Tryz.results80,go_sem,q0,q1,q2]
  ·exact⟨_,rfl,⟨_,rfl,QD.set3 RD dcells _ _ _⟩,below_set (below_set (below_set BD (by omega) _) (by omega) _) (by omega) _⟩
end Go.Proofs.YtffaefjkpipjnaaGreatDoor
namespace Go.Proofs.YtffaefjkpipjnaaGreatDoor
set_option maxRecDepth 100000
open Go.RowKit Go.ChangeShapes Go.WideShapes
set_option linter.unusedVariables false
theorem Blk.open6 {w:World}{b:Nat}{x0 x1 x2 x3 x4 x5:Value}(h:Blk w b #[x0,x1,x2,x3,x4,x5]):w.cell? ⟨b,0,none⟩=some x0∧w.cell? ⟨b,1,none⟩=some x1∧w.cell? ⟨b,2,none⟩=some x2∧w.cell? ⟨b,3,none⟩=some x3∧w.cell? ⟨b,4,none⟩=some x4∧w.cell? ⟨b,5,none⟩=some x5∧
 w.frozen? ⟨b,0,none⟩=false∧w.frozen? ⟨b,1,none⟩=false∧w.frozen? ⟨b,2,none⟩=false∧w.frozen? ⟨b,3,none⟩=false∧w.frozen? ⟨b,4,none⟩=false∧w.frozen? ⟨b,5,none⟩=false∧b<w.heap.size:=by
 obtain⟨h1,T,h2⟩:=h
 exact⟨cell_at h2 rfl,cell_at h2 rfl,cell_at h2 rfl,cell_at h2 rfl,cell_at h2 rfl,cell_at h2 rfl,free_at h2,free_at h2,free_at h2,free_at h2,free_at h2,free_at h2,h1⟩
theorem Blk.set6 {w:World}{b:Nat}{x0 x1 x2 x3 x4 x5:Value}(h:Blk w b #[x0,x1,x2,x3,x4,x5]) (y0 y1 y2 y3 y4 y5:Value):Blk ((((((w.setCell ⟨b,0,none⟩ y0).setCell ⟨b,1,none⟩ y1).setCell ⟨b,2,none⟩ y2).setCell ⟨b,3,none⟩ y3).setCell ⟨b,4,none⟩ y4).setCell ⟨b,5,none⟩ y5) b #[y0,y1,y2,y3,y4,y5]:=by
 obtain⟨h1,T,h2⟩:=h
 exact⟨by simpa[World.setCell]using h1,T,heap_setC (heap_setC (heap_setC (heap_setC (heap_setC (heap_setC h2 y0) y1) y2) y3) y4) y5⟩
theorem RdN.set6 {w:World}{v:Value}{l:List Nat}{b:Nat}{c:Array Value}(h:RdN w v l) (hB:Blk w b c) (hc:∀x∈c.toList,∀n:Nat,x≠L64 n) (y0 y1 y2 y3 y4 y5:Value):
 RdN ((((((w.setCell ⟨b,0,none⟩ y0).setCell ⟨b,1,none⟩ y1).setCell ⟨b,2,none⟩ y2).setCell ⟨b,3,none⟩ y3).setCell ⟨b,4,none⟩ y4).setCell ⟨b,5,none⟩ y5) v l:=by
 have h2:=(h.away hB hc).keep (S:=fun g=>g=b) (((((((Fr.refl (fun g=>g=b) w).setCell (p:=⟨b,0,none⟩) rfl y0).setCell (p:=⟨b,1,none⟩) rfl y1).setCell (p:=⟨b,2,none⟩) rfl y2).setCell (p:=⟨b,3,none⟩) rfl y3).setCell (p:=⟨b,4,none⟩) rfl y4).setCell (p:=⟨b,5,none⟩) rfl y5) (fun _ h=>h)
 exact h2.mono (fun _ _ _=>trivial)
theorem dcells6 {p q:Bool}{a c:Option Addr}{n k m j:Nat}{e f:Int}:∀x∈(#[.bool p,.slice a n k,.int .i64 e,.bool q,.slice c m j,.int .i64 f]:Array Value).toList,∀i:Nat,x≠L64 i:=by
 intro x hx i
 simp at hx
 rcases hx with rfl|rfl|rfl|rfl|rfl|rfl<;>simp[L64]
theorem below_set6 {w w':World}(h:Below w.heap.size w w') {b:Nat}(hb:w.heap.size≤b) (y0 y1 y2 y3 y4 y5:Value):Below w.heap.size w ((((((w'.setCell ⟨b,0,none⟩ y0).setCell ⟨b,1,none⟩ y1).setCell ⟨b,2,none⟩ y2).setCell ⟨b,3,none⟩ y3).setCell ⟨b,4,none⟩ y4).setCell ⟨b,5,none⟩ y5):=
 below_set (below_set (below_set (below_set (below_set (below_set h hb y0) hb y1) hb y2) hb y3) hb y4) hb y5
end Go.Proofs.YtffaefjkpipjnaaGreatDoor
namespace Go.Proofs.YtffaefjkpipjnaaGreatDoor
set_option maxRecDepth 100000
open Go.RowKit Go.ChangeShapes Go.WideShapes
set_option linter.unusedVariables false
theorem Blk.open2 {w:World}{b:Nat}{x y:Value}(h:Blk w b #[x,y]):w.cell? ⟨b,0,none⟩=some x∧w.cell? ⟨b,1,none⟩=some y∧w.frozen? ⟨b,0,none⟩=false∧w.frozen? ⟨b,1,none⟩=false∧b<w.heap.size:=by
 obtain⟨h1,T,h2⟩:=h
 exact⟨cell_at h2 rfl,cell_at h2 rfl,free_at h2,free_at h2,h1⟩
theorem Blk.set2 {w:World}{b:Nat}{x y:Value}(h:Blk w b #[x,y]) (x' y':Value):Blk ((w.setCell ⟨b,0,none⟩ x').setCell ⟨b,1,none⟩ y') b #[x',y']:=by
 obtain⟨h1,T,h2⟩:=h
 exact⟨by simpa[World.setCell]using h1,T,heap_setC (heap_setC h2 x') y'⟩
theorem RdN.set2 {w:World}{v:Value}{l:List Nat}{b:Nat}{c:Array Value}(h:RdN w v l) (hB:Blk w b c) (hc:∀x∈c.toList,∀n:Nat,x≠L64 n) (x y:Value):
 RdN ((w.setCell ⟨b,0,none⟩ x).setCell ⟨b,1,none⟩ y) v l:=by
 have h2:=(h.away hB hc).keep (S:=fun g=>g=b) (((Fr.refl (fun g=>g=b) w).setCell (p:=⟨b,0,none⟩) rfl x).setCell (p:=⟨b,1,none⟩) rfl y) (fun _ h=>h)
 exact h2.mono (fun _ _ _=>trivial)
theorem pcells {a b:Option Addr}{n m k j:Nat}:∀x∈(#[.slice a n k,.slice b m j]:Array Value).toList,∀i:Nat,x≠L64 i:=by
 intro x hx i
 simp at hx
 rcases hx with rfl|rfl<;>simp[L64]
theorem blk3_1 {w:World}{c:Array Value}{T:TypeId}{o o':Obj}:Blk (((w.alloc (.cells c T (0,0))).alloc o).alloc o') w.heap.size c:=blk_a1.below (below_alloc _ _)
theorem blk3_2 {w:World}{c:Array Value}{T:TypeId}{o o':Obj}:Blk (((w.alloc o).alloc (.cells c T (0,0))).alloc o') (w.heap.size+1) c:=blk_a2.below (below_alloc _ _)
theorem blk3_3 {w:World}{c:Array Value}{T:TypeId}{o o':Obj}:Blk (((w.alloc o).alloc o').alloc (.cells c T (0,0))) (w.heap.size+1+1) c:=by
 have h:Blk (((w.alloc o).alloc o').alloc (.cells c T (0,0))) ((w.alloc o).alloc o').heap.size c:=blk_new
 simpa using h
theorem below_3 {w:World}{o1 o2 o3:Obj}:Below w.heap.size w (((w.alloc o1).alloc o2).alloc o3):=below_a below_2
theorem Blk.other2 {w:World}{b b':Nat}{c:Array Value}(h:Blk w b c) (hne:b≠b') (y0 y1:Value):Blk ((w.setCell ⟨b',0,none⟩ y0).setCell ⟨b',1,none⟩ y1) b c:=by
 obtain⟨h1,T,h2⟩:=h
 exact⟨by simpa[World.setCell]using h1,T,heap_setO (heap_setO h2 y0 hne) y1 hne⟩
theorem Tab.set3 {w:World}{b:Nat}(h:Tab w) (hb:0≠b) (x y z:Value):Tab (((w.setCell ⟨b,0,none⟩ x).setCell ⟨b,1,none⟩ y).setCell ⟨b,2,none⟩ z):=
 h.fr ((((Fr.refl (fun g=>g=b) w).setCell (p:=⟨b,0,none⟩) rfl x).setCell (p:=⟨b,1,none⟩) rfl y).setCell (p:=⟨b,2,none⟩) rfl z) hb
end Go.Proofs.YtffaefjkpipjnaaGreatDoor
namespace Go.Proofs.YtffaefjkpipjnaaGreatDoor
set_option maxRecDepth 100000
open Go.RowKit Go.ChangeShapes Go.WideShapes
theorem Blk.other3 {w:World}{b b':Nat}{c:Array Value}(h:Blk w b c) (hne:b≠b') (x y z:Value):Blk (((w.setCell ⟨b',0,none⟩ x).setCell ⟨b',1,none⟩ y).setCell ⟨b',2,none⟩ z) b c:=by
 obtain⟨h1,T,h2⟩:=h
 exact⟨by simpa[World.setCell]using h1,T,heap_setO (heap_setO (heap_setO h2 x hne) y hne) z hne⟩
theorem below_set3 {w w':World}(h:Below w.heap.size w w') {b:Nat}(hb:w.heap.size≤b) (x y z:Value):Below w.heap.size w (((w'.setCell ⟨b,0,none⟩ x).setCell ⟨b,1,none⟩ y).setCell ⟨b,2,none⟩ z):=
 below_set (below_set (below_set h hb x) hb y) hb z
theorem bare_d {w:World}{v:Value}{neg n':Bool}{M M':Nat}{E E':Int}(h:Num w v M) (hT:Tab w) (h1: -9223372036854775808≤E) (h2:E≤9223372036854775807) (e:bareD ⟨neg,M,E⟩=⟨n',M',E'⟩):
 Calls Tryz.prog 80 #[.agg #[.bool neg,v,.int .i64 E]] w (fun e w'=>∃v,e= .returned v∧Db w' v ⟨n',M',E'⟩∧Below w.heap.size w w'):=by
 rw[←e]
 exact dbare_n ⟨v,rfl,h,h1,h2⟩ hT
set_option maxHeartbeats 800000 in
theorem Bare_ok {w:World}{v:Value}{neg n':Bool}{M M':Nat}{E E':Int}(h:Num w v M) (hT:Tab w) (h1: -9223372036854775808≤E) (h2:E≤9223372036854775807) (e:bareD ⟨neg,M,E⟩=⟨n',M',E'⟩) (hf:fitsE E'=true):
 Calls Tryz.prog 74 #[.agg #[.bool neg,v,.int .i64 E]] w (fun e w'=>∃v,e= .returned (.tuple #[.agg #[.bool n',v,.int .i64 E'],.int .i64 0])∧RdN w' v (digs BB M')∧Below w.heap.size w w'):=by
 obtain⟨a,n,k,rfl⟩:=h.slice
 have e:=Lib.hid e
 have d1:decide (E'< -1073741824)=false:=by unfold fitsE at hf;simp at hf;exact decide_eq_false (by omega)
 have d2:decide (1073741824<E')=false:=by unfold fitsE at hf;simp at hf;exact decide_eq_false (by omega)
 clear hf
 go_enter Tryz.func74,Tryz.ntmps74
 go_wp2_with
  (first
    |(go_at_call 80;(with_reducible refine(bare_d (h.below below_2) (hT.below below_2) h1 h2 e.out).mono ?_);rintro e w1 ⟨vd1,rfl,d1,hb1⟩;have B1:=below_2.trans (hb1.mono below_2.size);have m1:=((h.below below_2)).below hb1;have T1:=((hT.below below_2)).below hb1;have P1:=((blk_a1)).below hb1;have R1:=((blk_a2)).below hb1;obtain⟨cP0_1,cP1_1,cP2_1,fP0_1,fP1_1,fP2_1,sP_1⟩:=P1.open3;obtain⟨cR0_1,cR1_1,cR2_1,fR0_1,fR1_1,fR2_1,sR_1⟩:=R1.open3;obtain⟨ud1,rfl,d1⟩:=d1;obtain⟨ad1,kd1,rfl,-⟩:=d1.view)
    |fail)
 obtain⟨q0,q1,q2,-⟩:=((R1.other3 (b':=w.heap.size) (by omega) (.bool n') (.slice ad1 (digs BB M').length kd1) (.int .i64 E')).set3 (.bool n') (.slice ad1 (digs BB M').length kd1) (.int .i64 E')).open3
 refine bodyPost_ret (v:= .tuple #[.agg #[.bool n',.slice ad1 (digs BB M').length kd1,.int .i64 E'],.int .i64 0]) ?_ rfl ?_
 ·simp[results,Tryz.results74,go_sem,q0,q1,q2]
 ·exact⟨_,rfl,(d1.set3 P1 dcells _ _ _).set3 (R1.other3 (by omega) _ _ _) dcells _ _ _,below_set3 (below_set3 B1 (by omega) _ _ _) (by omega) _ _ _⟩
set_option maxHeartbeats 800000 in
theorem Bare_long {w:World}{v:Value}{neg n':Bool}{M M':Nat}{E E':Int}(h:Num w v M) (hT:Tab w) (h1: -9223372036854775808≤E) (h2:E≤9223372036854775807) (e:bareD ⟨neg,M,E⟩=⟨n',M',E'⟩) (hf:fitsE E'=false):
 Calls Tryz.prog 74 #[.agg #[.bool neg,v,.int .i64 E]] w (fun e w'=>e= .returned (.tuple #[.agg #[.bool false,.slice none 0 0,.int .i64 0],.int .i64 2])∧Below w.heap.size w w'):=by
 obtain⟨a,n,k,rfl⟩:=h.slice
 have e:=Lib.hid e
 have d3:(decide (E'< -1073741824)||decide (1073741824<E'))=true:=by
  unfold fitsE at hf;simp at hf⊢;omega
 by_cases d1:E'< -1073741824
 all_goals
  clear d3
  have d2:1073741824<E'∨E'< -1073741824:=by unfold fitsE at hf;simp at hf;omega
  clear hf
  go_enter Tryz.func74,Tryz.ntmps74
  go_wp2_with
   (first
     |(go_at_call 80;(with_reducible refine(bare_d (h.below below_2) (hT.below below_2) h1 h2 e.out).mono ?_);rintro e w1 ⟨vd1,rfl,d1,hb1⟩;have B1:=below_2.trans (hb1.mono below_2.size);have m1:=((h.below below_2)).below hb1;have T1:=((hT.below below_2)).below hb1;have P1:=((blk_a1)).below hb1;have R1:=((blk_a2)).below hb1;obtain⟨cP0_1,cP1_1,cP2_1,fP0_1,fP1_1,fP2_1,sP_1⟩:=P1.open3;obtain⟨cR0_1,cR1_1,cR2_1,fR0_1,fR1_1,fR2_1,sR_1⟩:=R1.open3;obtain⟨ud1,rfl,d1⟩:=d1;obtain⟨ad1,kd1,rfl,-⟩:=d1.view)
     |fail)
  obtain⟨q0,q1,q2,-⟩:=((R1.other3 (b':=w.heap.size) (by omega) (.bool n') (.slice ad1 (digs BB M').length kd1) (.int .i64 E')).set3 (.bool false) (.slice none 0 0) (.int .i64 0)).open3
  refine bodyPost_ret (v:= .tuple #[.agg #[.bool false,.slice none 0 0,.int .i64 0],.int .i64 2]) ?_ rfl ?_
  ·simp[results,Tryz.results74,go_sem,q0,q1,q2]
  ·exact⟨rfl,below_set3 (below_set3 B1 (by omega) _ _ _) (by omega) _ _ _⟩
theorem Sign_n {w:World}{v:Value}{neg:Bool}{M:Nat}{E s:Int}(h:Num w v M) (e:signD ⟨neg,M,E⟩=s):
 Calls Tryz.prog 26 #[.agg #[.bool neg,v,.int .i64 E]] w (fun e w'=>e= .returned (.int .i64 s)∧Below w.heap.size w w'):=by
 obtain⟨a,n,k,rfl⟩:=h.slice
 have sM:=h.bound
 obtain⟨b,hb⟩:∃b,bitN M=b:=⟨_,rfl⟩
 have eb:=Lib.hid hb
 unfold signD at e
 simp only at e
 by_cases h0:M=0
 ·obtain rfl:b=0:=by rw[←hb,h0,bitN_zero]
  rw[if_pos h0]at e
  subst e
  clear hb
  go_enter Tryz.func26,Tryz.ntmps26
  go_wp2_with
   (first
     |(go_at_call 48;(with_reducible refine(bits_n (h.below (below_alloc _ _)) eb.out).mono ?_);rintro e w1 ⟨rfl,hb1⟩;have B1:=(below_alloc _ _).trans (hb1.mono (below_alloc _ _).size);have m1:=((h.below (below_alloc _ _))).below hb1;have P1:=((blk_new)).below hb1;obtain⟨cP0_1,cP1_1,cP2_1,fP0_1,fP1_1,fP2_1,sP_1⟩:=P1.open3)
     |fail)
  all_goals
   go_ret
   exact⟨rfl,by assumption⟩
 ·rw[if_neg h0]at e
  have hbi:(b:Int)≠0:=by have:=bitN_pos h0;omega
  have hbq:((b:Int)==0)=false:=beq_false_of_ne hbi
  clear hb
  cases neg
  all_goals
   simp only[Bool.false_eq_true,ite_true,ite_false]at e
   subst e
   go_enter Tryz.func26,Tryz.ntmps26
   go_wp2_with
    (first
      |(go_at_call 48;(with_reducible refine(bits_n (h.below (below_alloc _ _)) eb.out).mono ?_);rintro e w1 ⟨rfl,hb1⟩;have B1:=(below_alloc _ _).trans (hb1.mono (below_alloc _ _).size);have m1:=((h.below (below_alloc _ _))).below hb1;have P1:=((blk_new)).below hb1;obtain⟨cP0_1,cP1_1,cP2_1,fP0_1,fP1_1,fP2_1,sP_1⟩:=P1.open3)
      |fail)
   all_goals
    go_ret
    exact⟨rfl,by assumption⟩
set_option maxHeartbeats 800000 in
theorem Top_n {w:World}{v:Value}{neg n':Bool}{M M':Nat}{E E':Int}(h:Num w v M) (hT:Tab w) (h1: -9223372036854775808≤E) (h2:E≤9223372036854775807) (e:bareD ⟨neg,M,E⟩=⟨n',M',E'⟩) (h0:M≠0):
 Calls Tryz.prog 69 #[.agg #[.bool neg,v,.int .i64 E]] w (fun e w'=>e= .returned (.tuple #[.int .i64 (topD ⟨n',M',E'⟩),.bool true])∧Below w.heap.size w w'):=by
 obtain⟨a,n,k,rfl⟩:=h.slice
 have sM:=h.bound
 have hM':M'≠0:=by
  have:=(bareD_m_zero ⟨neg,M,E⟩)
  rw[e]at this
  exact fun h=>h0 (this.1 h)
 have sM':bitN M'≤2560000:=by
  have:=bareD_m_le ⟨neg,M,E⟩
  rw[e]at this
  exact Nat.le_trans (bitN_mono this) sM
 have hE': -2147483648≤E'∧E'≤2147483648+2560000:=by
  rw[bareD_pos h0]at e
  injection e with e1 e2 e3
  have h3:=cutE_range E
  have h4:=low2_lt h0
  simp only at e3
  omega
 have hsn:digs BB M'≠[]:=fun e=>hM' ((digs_nil_iff BB_two _).1 e)
 have hsb:(((digs BB M').length:Int)==0)=false:=beq_false_of_ne (by have:=List.length_pos_iff.2 hsn;omega)
 have hsi:((digs BB M').length:Int)≠0:=by have:=List.length_pos_iff.2 hsn;omega
 unfold topD
 simp only
 have e:=Lib.hid e
 obtain⟨b,hb⟩:∃b,bitN M'=b:=⟨_,rfl⟩
 have eb:=Lib.hid hb
 rw[hb]
 obtain⟨t,ht⟩:∃t:Int,(b:Int)-1+E'=t:=⟨_,rfl⟩
 have hw:IntKind.i64.wrap (IntKind.i64.wrap ((b:Int)-1)+E')=t:=by
  rw[IntKind.wrap_i64,IntKind.wrap_i64];omega
 rw[ht]
 go_enter Tryz.func69,Tryz.ntmps69
 go_wp2_with
  (first
    |(go_at_call 80;(with_reducible refine(bare_d (h.below (below_alloc _ _)) (hT.below (below_alloc _ _)) h1 h2 e.out).mono ?_);rintro e w1 ⟨vd1,rfl,d1,hb1⟩;have B1:=(below_alloc _ _).trans (hb1.mono (below_alloc _ _).size);have m1:=((h.below (below_alloc _ _))).below hb1;have T1:=((hT.below (below_alloc _ _))).below hb1;have P1:=((blk_new)).below hb1;obtain⟨cP0_1,cP1_1,cP2_1,fP0_1,fP1_1,fP2_1,sP_1⟩:=P1.open3;obtain⟨ud1,rfl,d1⟩:=d1;obtain⟨ad1,kd1,rfl,-⟩:=d1.view)
    |fail)
 have B2:=below_set3 B1 (Nat.le_refl _) (.bool n') (.slice ad1 (digs BB M').length kd1) (.int .i64 E')
 have P2:=P1.set3 (.bool n') (.slice ad1 (digs BB M').length kd1) (.int .i64 E')
 have D2:=d1.set3 P1 dcells (.bool n') (.slice ad1 (digs BB M').length kd1) (.int .i64 E')
 clear P1 d1 B1 m1 T1 cP0_1 cP1_1 cP2_1 fP0_1 fP1_1 fP2_1 sP_1 hb1
 generalize ((w1.setCell _ _).setCell _ _).setCell _ _=w2 at*
 have BD:Below w.heap.size w w2.drew:=below_drewN B2 1
 have PD:Blk w2.drew _ _:=P2.below (below_drewN (Below.refl _ _) 1)
 have DD':RdN w2.drew _ _:=D2.below (below_drewN (Below.refl _ _) 1)
 obtain⟨cP0_1,cP1_1,cP2_1,fP0_1,fP1_1,fP2_1,sP_1⟩:=PD.open3
 go_region_with
  (first
    |(go_at_call 48;(with_reducible refine(bits_n (DD'.num sM') eb.out).mono ?_);rintro e w2 ⟨rfl,hb2⟩;have B2:=BD.trans (hb2.mono BD.size);have d2:=(DD').below hb2;have P2:=PD.below hb2;clear PD;obtain⟨cP0_2,cP1_2,cP2_2,fP0_2,fP1_2,fP2_2,sP_2⟩:=P2.open3)
    |fail)
 all_goals
  go_wp2_with fail
  go_ret2
  refine⟨?_,by assumption⟩
  simp[Act.put]
end Go.Proofs.YtffaefjkpipjnaaGreatDoor
namespace Go.Proofs.YtffaefjkpipjnaaGreatDoor
set_option maxRecDepth 100000
open Go.RowKit Go.ChangeShapes Go.WideShapes
structure Wid (w:World) (l:List Nat) (wh pt k cy:Nat) (X:List Nat) (v:Value) (wr:World):Prop where
 le:k≤l.length
 len:X.length=wh+k
 dig:Dig BB X
 low:cy<2^pt
 sum:val BB X+BB^(wh+k)*cy=BB^wh*(val BB (l.take k)*2^pt)
 own:wr.ownsRow w.heap.size 22 1 v X.length (X.map L64)
 below:Below w.heap.size w wr
theorem Wid.step {w wr wr':World}{l X:List Nat}{wh pt k cy:Nat}{v v':Value}(h:Wid w l wh pt k cy X v wr) (hp:pt<64) (hl:Dig BB l) (hk:k<l.length)
 (ho:wr'.ownsRow w.heap.size 22 1 v' (X.length+1) (X.map L64++[L64 (l.getD k 0*2^pt%BB+cy)])) (hb:Below w.heap.size w wr'):
 Wid w l wh pt (k+1) (l.getD k 0/2^(64-pt)) (X++[l.getD k 0*2^pt%BB+cy]) v' wr':=by
 have hx:=hl.getD BB_pos k
 have hPR:2^pt*2^(64-pt)=BB:=by rw[←Nat.pow_add,show pt+(64-pt)=64 by omega,BB_pow]
 have hP:0<2^pt:=Nat.pow_pos (by omega)
 have hdiv:l.getD k 0*2^pt/BB=l.getD k 0/2^(64-pt):=by rw[←hPR,Nat.mul_comm (2^pt)];exact Nat.mul_div_mul_right _ _ hP
 have hor:=(or_low' (x:=l.getD k 0) (show pt≤64 by omega) h.low).2
 have hc:l.getD k 0/2^(64-pt)<2^pt:=by
  rw[Nat.div_lt_iff_lt_mul (Nat.pow_pos (by omega)),hPR];exact hx
 have e:=Nat.mod_add_div (l.getD k 0*2^pt) BB
 rw[hdiv]at e
 have hs:=h.sum
 refine⟨hk,by rw[List.length_append,h.len];rfl,h.dig.append (Dig.cons hor (Dig.nil _)),hc,?_,by rw[List.length_append,List.map_append];exact ho,hb⟩
 rw[val_append,val_one,h.len,val_take_succ]
 generalize l.getD k 0*2^pt%BB=lo at*
 generalize l.getD k 0/2^(64-pt)=hi at*
 generalize l.getD k 0=x at*
 have e2:=congrArg (BB^(wh+k)*·) e
 simp only[Nat.mul_add]at e2
 rw[show wh+(k+1)=wh+k+1 by omega,Nat.pow_succ,Nat.mul_assoc,Nat.mul_add,Nat.add_mul,Nat.mul_add]
 have e3:BB^wh*(BB^k*x*2^pt)=BB^(wh+k)*(x*2^pt):=by rw[Nat.pow_add,Nat.mul_assoc,Nat.mul_assoc]
 rw[e3]
 omega
theorem Wid.fin {w wr wr':World}{l X:List Nat}{wh pt cy:Nat}{v v':Value}(h:Wid w l wh pt l.length cy X v wr) (hp:pt<64) (hl:wh+l.length+1≤40000)
 (ho:wr'.ownsRow w.heap.size 22 1 v' (X.length+1) (X.map L64++[L64 cy])):Num wr' v' (val BB l*2^(64*wh+pt)):=by
 have hc:cy<BB:=by
  refine Nat.lt_of_lt_of_le h.low ?_
  rw[BB_pow];exact Nat.pow_le_pow_right (by omega) (by omega)
 have e:val BB (X++[cy])=val BB l*2^(64*wh+pt):=by
  rw[val_append,val_one,h.len,h.sum,List.take_length,Nat.pow_add,Nat.pow_mul,←BB_pow,Nat.mul_left_comm]
 rw[←e]
 have h2:RdN wr' v' (X++[cy]):=Rd.of_own (by rw[List.map_append];exact ho) (fun _ _=>trivial)
 exact h2.numl (h.dig.append (Dig.cons hc (Dig.nil _))) (by rw[List.length_append,h.len];simp;omega)
theorem widened_zero {w:World}{v:Value}{M:Nat}{n:Int}(h:Num w v M) (hn:n≤0):
 Calls Tryz.prog 112 #[v,.int .i64 n] w (fun e w'=>∃v,e= .returned v∧Num w' v M∧Below w.heap.size w w'):=by
 go_enter Tryz.func112,Tryz.ntmps112
 go_wp2
 go_ret
 exact⟨_,rfl,h,Below.refl _ _⟩
set_option maxHeartbeats 800000 in
theorem widened_n {w:World}{v:Value}{M n:Nat}(h:RdN w v (digs BB M)) (hn:0<n) (hs:bitN M+n≤2000000):
 Calls Tryz.prog 112 #[v,.int .i64 n] w (fun e w'=>∃v,e= .returned v∧Num w' v (M*2^n)∧Below w.heap.size w w'):=by
 obtain⟨i0,hi,hz0,hz1,hz2⟩:=info_parts infoU
 obtain⟨wh,hwh⟩:∃x,n/64=x:=⟨_,rfl⟩
 obtain⟨pt,hpt⟩:∃x,n%64=x:=⟨_,rfl⟩
 have hnw:n=64*wh+pt:=by omega
 have hpt64:pt<64:=by omega
 have hwI2:(n:Int).tdiv 64=(wh:Int):=by rw[Int.tdiv_eq_ediv_of_nonneg (by omega)];omega
 have hpI2:(n:Int).tmod 64=(pt:Int):=by rw[Int.tmod_eq_emod_of_nonneg (by omega)];omega
 have hlen:(digs BB M).length+wh≤31252:=by
  have:=digs_short (n:=M) (k:=bitN M/64+1) (by omega)
  omega
 have hwh2:wh≤31250:=by omega
 have hd:=dig_digs BB_two M
 have hv:=val_digs BB_two M
 generalize digs BB M=l at*
 have HNW:=Lib.hid hnw
 clear hwh hpt hnw
 obtain⟨a,c,rfl,hac,hc,-,-⟩:=h.view
 have HL:=Lib.hid h;clear h
 go_enter Tryz.func112,Tryz.ntmps112
 go_wp2_with (at_make;go_loud (refine wpList_make_full _ rfl (.tmp 14) (.tmp 14) 55 rfl w.heap.size 22 i0 (.int .u64 0) 1 Tryz.underlying55 hi hz0 hz1 .i64 .i64 wh wh wh ?_ ?_ rfl rfl ?_ ?_ ?_ ?_;(any_goals (first|rfl|(rw[hz2];omega)|(unfold maxLen;omega)|(with_reducible exact Nat.le_refl _)));intro w0 hown0 hgrow0))
 rw[made_zero]at hown0
 have hst:Wid w l wh pt 0 0 (List.replicate wh 0) (.slice (some ⟨w.heap.size,0,none⟩) wh wh) w0:=⟨Nat.zero_le _,by simp,Dig.replicate BB_pos _,Nat.pow_pos (by omega),by rw[val_replicate,List.take_zero,val_nil];simp,by rw[List.length_replicate];exact hown0,(Below.refl _ _).grown hgrow0 (Nat.le_refl _) (by simp)⟩
 have HST:=Lib.hid hst
 clear hst hown0 hgrow0
 go_loopw [5,7,20] (fun v c i wr=>∃(k cy:Nat) (X:List Nat),i= .int .i64 k∧c=L64 cy∧Wid w l wh pt k cy X v wr) (fun _ _ i _=>l.length-(intOf i).toNat)
 case atStart=>exact⟨0,0,_,rfl,rfl,HST.out⟩
 case round=>
  clear HST
  obtain⟨k,cy,X,rfl,rfl,hR⟩:=hrel
  have HR:=Lib.hid hR
  have hk:=hR.le;have hXl:=hR.len;have hB:=hR.below
  have hsz:=hB.size
  have hown:=hR.own
  by_cases hkn:k<l.length
  ·obtain⟨a',c',e1,-,-,-,hc2⟩:=(HL.out.below hB).view
   injection e1 with e1 e2 e3;subst e1 e3
   obtain⟨g,of,rfl,hg,hcell⟩:=hc2 k hkn
   rw[←List.getD_eq_getElem?_getD]at hcell
   clear hc2 e2
   obtain⟨hor,hob⟩:=or_low' (x:=l.getD k 0) (show pt≤64 by omega) hR.low
   have hXI:IntKind.u64.wrap ((l.getD k 0:Int)*2^pt)=((l.getD k 0*2^pt%BB:Nat):Int):=by rw[IntKind.wrap_u64,show BB=18446744073709551616 from rfl];simp
   have hLI:(l.getD k 0:Int)/2^(64-pt)=((l.getD k 0/2^(64-pt):Nat):Int):=by simp
   have hx:=hd.getD BB_pos k
   have hxb:l.getD k 0/2^(64-pt)≤l.getD k 0:=Nat.div_le_self _ _
   have HS:=Lib.hid (fun(v':Value) (wr':World)=>hR.step (wr':=wr') (v':=v') hpt64 hd hkn)
   clear hR
   generalize l.getD k 0*2^pt%BB=lo at*
   generalize l.getD k 0/2^(64-pt)=hi' at*
   generalize l.getD k 0=x at*
   obtain⟨t,ht⟩:∃t,lo+cy=t:=⟨_,rfl⟩
   rw[ht]at hor hob HS
   clear ht
   have hx64:x<18446744073709551616:=hx
   have hm1:min pt 64=pt:=by omega
   have hm2:min ((64:Int)-(pt:Int)).toNat 64=64-pt:=by omega
   have hW1:IntKind.u64.wrap (t:Int)=(t:Int):=by rw[IntKind.wrap_u64];omega
   have hW2:IntKind.u64.wrap (hi':Int)=(hi':Int):=by rw[IntKind.wrap_u64];omega
   have hW4:IntKind.i64.wrap (64-(pt:Int))=64-(pt:Int):=by rw[IntKind.wrap_i64];omega
   go_wp2_with (at_builtin;go_loud (refine wpList_append_own _ rfl _ _ 55 rfl w.heap.size 22 i0 (.int .u64 0) 1 8 Tryz.underlying55 hi hz0 hz1 hz2 rfl (by decide) _ _ _ rfl (hown.alloc _) ⟨wr.heap.size,0,none⟩ 1 1 [.int .u64 (t:Int)] rfl rfl (cell_one_new _ _ _) (by simp[Value.oneCell']) ?_ ?_ ?_ ?_;(focus(unfold maxLen;omega));(focus omega);(focus(simp;omega));intro v2 w2 hown2 hg2 _;have HS2:=Lib.hid (HS.out _ _ hown2 ((hB.alloc hB.size _).grown hg2 (by simp;omega) (fun k hk=>(hown.lt k hk).1)));clear hown2 hg2))
   go_round
   case rel=>exact⟨k+1,hi',_,by go_num,rfl,HS2.out⟩
   case measure=>simp[intOf];omega
  ·have hkl:k=l.length:=by omega
   subst hkl
   clear hR
   go_wp2_with (at_builtin;go_loud (refine wpList_append_own _ rfl _ _ 55 rfl w.heap.size 22 i0 (.int .u64 0) 1 8 Tryz.underlying55 hi hz0 hz1 hz2 rfl (by decide) _ _ _ rfl (hown.alloc _) ⟨wr.heap.size,0,none⟩ 1 1 [.int .u64 (cy:Int)] rfl rfl (cell_one_new _ _ _) (by simp[Value.oneCell']) ?_ ?_ ?_ ?_;(focus(unfold maxLen;omega));(focus omega);(focus(simp;omega));intro v2 w2 hown2 hg2 _;have HF:=Lib.hid (HR.out.fin hpt64 (by omega) hown2);have HB2:=Lib.hid ((hB.alloc hB.size _).grown hg2 (by simp;omega) (fun k hk=>(hown.lt k hk).1));clear hown2 hg2))
   go_ret
   refine⟨_,rfl,?_,HB2.out⟩
   have:=HF.out
   rw[hv,←HNW.out]at this
   exact this
end Go.Proofs.YtffaefjkpipjnaaGreatDoor

namespace Go.Proofs.YtffaefjkpipjnaaGreatDoor
set_option maxRecDepth 100000
open Go.RowKit
structure RDbl (w:World) (l:List Nat) (more S k cy:Nat) (X:List Nat) (v:Value) (wr:World):Prop where
 toOwn:ToOwn w X v wr
 cy1:cy≤1
 len:X.length=k
 le:k≤l.length+1
 last:cy=0∨k≤l.length
 sum:val DD X+DD^k*cy=2*val DD (l.take k)+more
 low:k=0∨DD^(k-1)≤S
theorem RDbl.step {w wr wr':World}{l:List Nat}{more S k cy:Nat}{X:List Nat}{v v':Value}(h:RDbl w l more S k cy X v wr) (hdl:Dig DD l) (hS:S=2*val DD l+more)
 (hl:∀k,k<l.length→DD^k≤val DD l) (hgo:k<l.length∨0<cy)
 (ho:wr'.ownsRow w.heap.size 83 1 v' (X.length+1) (X.map D32++[D32 ((cy+2*l.getD k 0)%DD)])) (hb:Below w.heap.size w wr'):
 RDbl w l more S (k+1) ((cy+2*l.getD k 0)/DD) (X++[(cy+2*l.getD k 0)%DD]) v' wr':=by
 have a1:=hdl.getD DD_pos k
 have hc:=h.cy1
 have hq:(cy+2*l.getD k 0)/DD≤1:=by
  rw[Nat.div_le_iff_le_mul_add_pred DD_pos];omega
 have hlen:=h.len
 refine⟨⟨h.toOwn.dig.append (Dig.cons (Nat.mod_lt _ DD_pos) (Dig.nil _)),by rw[List.length_append,List.map_append];exact ho,hb⟩,hq,by rw[List.length_append,hlen];rfl,?_,?_,?_,?_⟩
 ·rcases h.last with h0|h0<;>omega
 ·by_cases hk:k+1≤l.length
  ·exact .inr hk
  ·left
   have e1:l.getD k 0=0:=by
    rw[List.getD_eq_getElem?_getD,List.getElem?_eq_none (by omega)];rfl
   rw[Nat.div_eq_of_lt]
   have:2≤DD:=DD_two
   omega
 ·have e:=Nat.mod_add_div (cy+2*l.getD k 0) DD
  have hs:=h.sum
  rw[val_append,val_one,hlen,val_take_succ,Nat.pow_succ,Nat.mul_assoc,Nat.add_assoc,←Nat.mul_add,e,Nat.mul_add,Nat.mul_add,Nat.mul_left_comm (DD^k) 2]
  omega
 ·right
  rw[Nat.add_sub_cancel,hS]
  by_cases hk:k<l.length
  ·have:=hl k hk;omega
  ·rcases hgo with hg|hg
   ·omega
   ·have hs:=h.sum
    obtain rfl:cy=1:=by omega
    rw[val_take_ge DD l k (by omega)]at hs
    omega
theorem RDbl.fin {w wr:World}{l:List Nat}{more S k:Nat}{X:List Nat}{v:Value}(h:RDbl w l more S k 0 X v wr) (hS:S=2*val DD l+more) (h1:l.length≤k):RdD wr v (digs DD S):=by
 have hs:=h.sum
 rw[val_take_ge DD l k h1,←hS]at hs
 have hv:val DD X=S:=by omega
 have:=full_digs DD_two h.toOwn.dig (by rw[h.len,hv];rcases h.low with h0|h0;exact .inl h0;exact .inr h0)
 rw[←hv,←this]
 exact Rd.of_own h.toOwn.own (fun _ _=>trivial)
set_option maxHeartbeats 800000 in
theorem rdouble_any {w:World}{v:Value}{A more:Nat}(h:RdD w v (digs DD A)) (hl:(digs DD A).length≤1000000) (hm:more≤1):
 Calls Tryz.prog 73 #[v,D32 more] w (OneD w (digs DD (2*A+more))):=by
 obtain⟨i0,hi,hz0,hz1,hz2⟩:=info_parts infoD
 have dA:=dig_digs DD_two A
 have lA:=digs_low DD_two A
 have hS:2*A+more=2*val DD (digs DD A)+more:=by rw[val_digs DD_two]
 have vA:=val_digs DD_two A
 generalize digs DD A=l at*
 rw[←vA]at lA
 generalize 2*A+more=S at*
 clear vA
 obtain⟨a,c,rfl,h2,h3,h4,-⟩:=h.view
 have HL:=Lib.hid h;clear h
 have LA:=Lib.hid lA;have HS:=Lib.hid hS;clear lA hS
 go_enter Tryz.func73,Tryz.ntmps73
 go_wp2
 go_loopw [5,6,7] (fun v cy i wr=>∃(k cy':Nat) (X:List Nat),i= .int .i64 k∧cy=D32 cy'∧RDbl w l more S k cy' X v wr) (fun _ _ i _=>l.length+1-(intOf i).toNat)
 case atStart=>exact⟨0,more,[],rfl,rfl,⟨Dig.nil _,World.ownsRow_nil _ _ _ _,Below.refl _ _⟩,hm,rfl,Nat.zero_le _,.inr (Nat.zero_le _),by simp,.inl rfl⟩
 case round=>
  obtain⟨k,cy,X,rfl,rfl,hR⟩:=hrel
  have HR:=Lib.hid hR
  have hcy:=hR.cy1;have hlen:=hR.len;have hle:=hR.le;have hlast:=hR.last
  have hown:=hR.toOwn.own;have hB:=hR.toOwn.below
  have hsz:=hB.size
  clear hR
  have hx:=dA.getD DD_pos k
  unfold DD at hx
  by_cases hkl:k<l.length
  ·have HST:=Lib.hid (fun v' wr' ho hb=>HR.out.step (v':=v') (wr':=wr') dA HS.out LA.out (.inl hkl) ho hb)
   obtain⟨a1,c1,e1,-,-,-,hcx⟩:=(HL.out.below hB).view
   injection e1 with e1 e2 e3;subst e1 e3
   obtain⟨g,of,rfl,hg,hcx⟩:=hcx k hkl
   rw[←List.getD_eq_getElem?_getD]at hcx
   clear e2
   generalize l.getD k 0=x at*
   go_wp2_with (at_builtin;go_loud (refine wpList_append_own _ rfl _ _ 25 rfl w.heap.size 83 i0 (.int .u32 0) 1 4 Tryz.underlying25 hi hz0 hz1 hz2 rfl (by decide) _ _ _ rfl (hown.alloc _) ⟨wr.heap.size,0,none⟩ 1 1 [.int .u32 (((cy:Int)+2*(x:Int))%65536)] rfl rfl (cell_one_new _ _ _) (by simp[Value.oneCell']) ?_ ?_ ?_ ?_;(focus(unfold maxLen;omega));(focus omega);(focus(simp;omega));intro v2 w2 hown2 hg2 _;have HN:=Lib.hid (HST.out v2 w2 (by simpa[D32,DD]using hown2) ((hB.alloc hB.size _).grown hg2 (by simp;omega) (fun k hk=>(hown.lt k hk).1)));clear hown2 hg2))
   go_round
   case rel=>exact⟨k+1,(cy+2*x)/DD,_,by go_num,by simp[DD,D32],HN.out⟩
   case measure=>simp[intOf];omega
  ·have zl:l.getD k 0=0:=by rw[List.getD_eq_getElem?_getD,List.getElem?_eq_none (by omega)];rfl
   by_cases hc0:cy=0
   ·subst hc0
    have RX:=HR.out.fin HS.out (by omega)
    go_wp2
    go_ret
    exact⟨_,rfl,RX,hB⟩
   ·have HST:=Lib.hid (fun v' wr' ho hb=>HR.out.step (v':=v') (wr':=wr') dA HS.out LA.out (.inr (by omega)) ho hb)
    rw[zl]at HST
    clear hx zl
    go_wp2_with (at_builtin;go_loud (refine wpList_append_own _ rfl _ _ 25 rfl w.heap.size 83 i0 (.int .u32 0) 1 4 Tryz.underlying25 hi hz0 hz1 hz2 rfl (by decide) _ _ _ rfl (hown.alloc _) ⟨wr.heap.size,0,none⟩ 1 1 [.int .u32 (((cy:Int))%65536)] rfl rfl (cell_one_new _ _ _) (by simp[Value.oneCell']) ?_ ?_ ?_ ?_;(focus(unfold maxLen;omega));(focus omega);(focus(simp;omega));intro v2 w2 hown2 hg2 _;have HN:=Lib.hid (HST.out v2 w2 (by simpa[D32,DD]using hown2) ((hB.alloc hB.size _).grown hg2 (by simp;omega) (fun k hk=>(hown.lt k hk).1)));clear hown2 hg2))
    go_round
    case rel=>exact⟨k+1,(cy+2*0)/DD,_,by go_num,by simp[DD,D32],HN.out⟩
    case measure=>simp[intOf];omega
theorem digit_bit {l:List Nat}(hd:Dig DD l) (i:Nat):val DD l/2^i%2=l.getD (i/16) 0/2^(i%16)%2:=by
 have e1:val DD l/2^i=val DD l/DD^(i/16)/2^(i%16):=by
  rw[Nat.div_div_eq_div_mul,DD_pow,←Nat.pow_mul,←Nat.pow_add]
  congr 2;omega
 rw[e1,val_div DD_pos hd,val_drop_any]
 generalize l.getD (i/16) 0=x
 generalize val DD (l.drop (i/16+1))=V
 obtain⟨r,hr⟩:∃r,i%16+1+r=16:=⟨15-i%16,by omega⟩
 have e2:DD=2^(i%16)*(2*2^r):=by
  generalize i%16=t at*
  rw[DD_pow,←hr,Nat.pow_add,Nat.pow_succ,Nat.mul_assoc]
 rw[e2,Nat.mul_assoc,Nat.add_mul_div_left _ _ (Nat.pow_pos (by omega)),Nat.mul_assoc,Nat.add_mul_mod_self_left]
set_option maxHeartbeats 800000 in
theorem rbit_any {w:World}{v:Value}{A i:Nat}(h:RdD w v (digs DD A)) (hl:(digs DD A).length≤1000000) (hi:i≤100000000):
 Calls Tryz.prog 41 #[v,.int .i64 i] w (fun e w'=>e= .returned (D32 (A/2^i%2))∧w'=w):=by
 have hdb:=digit_bit (dig_digs DD_two A) i
 rw[val_digs DD_two]at hdb
 have dA:=dig_digs DD_two A
 generalize digs DD A=l at*
 rw[hdb]
 clear hdb
 obtain⟨q,hq⟩:∃q,i/16=q:=⟨_,rfl⟩
 obtain⟨r,hr⟩:∃r,i%16=r:=⟨_,rfl⟩
 have hqI:(i:Int)/16=(q:Int):=by omega
 have hrI:(i:Int)%16=(r:Int):=by omega
 have hqI2:(i:Int).tdiv 16=(q:Int):=by rw[Int.tdiv_eq_ediv_of_nonneg (by omega)];exact hqI
 have hrI2:(i:Int).tmod 16=(r:Int):=by rw[Int.tmod_eq_emod_of_nonneg (by omega)];exact hrI
 have hr16:r<16:=by omega
 rw[hq,hr]
 obtain⟨a,c,rfl,h2,h3,h4,hc⟩:=h.view
 clear h hq hr
 by_cases hql:q<l.length
 ·obtain⟨g,of,rfl,hg,hcell⟩:=hc q hql
  rw[←List.getD_eq_getElem?_getD]at hcell
  have hx:=dA.getD DD_pos q
  unfold DD at hx
  clear hc
  generalize l.getD q 0=x at*
  go_enter Tryz.func41,Tryz.ntmps41
  go_wp2
  go_loop [5,6] (fun x' k=>∃j y:Nat,k= .int .i64 j∧x'=D32 y∧y≤x∧j≤r∧y=x/2^j) (fun _ k=>r-(intOf k).toNat)
  case atStart=>exact⟨0,x,rfl,rfl,Nat.le_refl _,Nat.zero_le _,by simp⟩
  case round=>
   obtain⟨j,y,rfl,rfl,hy,hj,hyj⟩:=hrel
   have HY:=Lib.hid hyj
   clear hyj
   by_cases hjr:j<r
   ·go_wp2
    go_round
    case rel=>exact⟨j+1,y/2,by go_num,by simp,by omega,by omega,by rw[HY.out,Nat.pow_succ,Nat.div_div_eq_div_mul]⟩
    case measure=>simp[intOf];omega
   ·have hjr2:j=r:=by omega
    have HJ:=Lib.hid hjr2
    go_wp2
    go_ret
    exact⟨by rw[←HJ.out,←HY.out];simp,rfl⟩
 ·have z:l.getD q 0=0:=by rw[List.getD_eq_getElem?_getD,List.getElem?_eq_none (by omega)];rfl
  rw[z,Nat.zero_div]
  clear hc
  go_enter Tryz.func41,Tryz.ntmps41
  go_wp2
  go_ret
  exact⟨rfl,rfl⟩
end Go.Proofs.YtffaefjkpipjnaaGreatDoor
namespace Go.Proofs.YtffaefjkpipjnaaGreatDoor
set_option maxRecDepth 100000
open Go.RowKit
end Go.Proofs.YtffaefjkpipjnaaGreatDoor
namespace Go.Proofs.YtffaefjkpipjnaaGreatDoor
set_option maxRecDepth 100000
open Go.RowKit
end Go.Proofs.YtffaefjkpipjnaaGreatDoor
namespace Go.Proofs.YtffaefjkpipjnaaGreatDoor
set_option maxRecDepth 100000
open Go.RowKit
theorem digsD_mono {a b:Nat}(h:a≤b):(digs DD a).length≤(digs DD b).length:=
 (digs_length_le DD_two _ _).2 (Nat.lt_of_le_of_lt h ((digs_length_le DD_two _ _).1 (Nat.le_refl _)))
end Go.Proofs.YtffaefjkpipjnaaGreatDoor
namespace Go.Proofs.YtffaefjkpipjnaaGreatDoor
set_option maxRecDepth 100000
open Go.RowKit Go.ChangeShapes Go.WideShapes
theorem rbits_n {w:World}{v:Value}{A b:Nat}(h:RdD w v (digs DD A)) (e:bitN A=b) (sA:bitN A≤400000):
 Calls Tryz.prog 21 #[v] w (fun e w'=>e= .returned (.int .i64 (b:Int))∧w'=w):=by
 subst e
 exact refbits_any h (Nat.le_trans (digsDlen sA) (by omega))
theorem to_n {w:World}{v:Value}{A:Nat}(h:Num w v A):Calls Tryz.prog 40 #[v] w (OneD w (digs DD A)):=by
 obtain⟨l,h1,h2,h3,rfl⟩:=h
 exact to_any h1 h2 (by omega)
end Go.Proofs.YtffaefjkpipjnaaGreatDoor

namespace Go.Proofs.YtffaefjkpipjnaaGreatDoor
set_option linter.unusedVariables false
set_option linter.unusedSimpArgs false
set_option maxRecDepth 100000
open Go.RowKit Go.ChangeShapes Go.WideShapes
theorem shr_bit (A t:Nat):2*(A/2^(t+1))+A/2^t%2=A/2^t:=by
 rw[Nat.pow_succ,←Nat.div_div_eq_div_mul]
 omega
theorem mod_bit (A t:Nat):decide (A%2^(t+1)≠0)=(decide (A%2^t≠0)||decide (A/2^t%2=1)):=by
 rw[Nat.pow_succ,Nat.mod_mul]
 have hp:0<2^t:=Nat.pow_pos (by omega)
 rcases Nat.mod_two_eq_zero_or_one (A/2^t)with h|h
 ·rw[h,Nat.mul_zero,Nat.add_zero,decide_eq_false (p:=(0:Nat)=1) (by omega),Bool.or_false]
 ·rw[h,Nat.mul_one,decide_eq_true (p:=(1:Nat)=1) rfl,Bool.or_true]
  exact decide_eq_true (by omega)
def RShr (w:World) (A n:Nat) (e:Ending) (w':World):Prop:=
 ∃v,e= .returned (.tuple #[v,.bool (decide (A%2^n≠0))])∧RdD w' v (digs DD (A/2^n))∧Below w.heap.size w w'
set_option maxHeartbeats 800000 in
theorem rshr_n {w:World}{v:Value}{A n:Nat}(h:RdD w v (digs DD A)) (sA:bitN A≤300000) (hn:n≤9223372036854775807):
 Calls Tryz.prog 42 #[v,.int .i64 n] w (RShr w A n):=by
 obtain⟨b,hb⟩:∃b,bitN A=b:=⟨_,rfl⟩
 have sA4:bitN A≤400000:=by omega
 have eb:=Lib.hid hb
 have hlt:A<2^b:=by rw[←hb];exact bitN_lt A
 have hnd:decide ((n:Int)<0)=false:=decide_eq_false (by omega)
 have hbs:b≤300000:=by omega
 have HLT:=Lib.hid hlt
 have hlA:(digs DD A).length≤1000000:=Nat.le_trans (digsDlen sA) (by omega)
 have RA:=Lib.hid h
 clear hb hlt
 go_enter Tryz.func42,Tryz.ntmps42
 go_wp2_with (go_at_call 21;(with_reducible refine(rbits_n h eb.out sA4).mono ?_);rintro e w1 ⟨rfl,rfl⟩)
 go_loopw [7,8] (fun o i wr=>∃j:Nat,i= .int .i64 ((j:Int)-1)∧j≤b∧(n≤j∨j=b)∧RdD wr o (digs DD (A/2^j))∧Below w1.heap.size w1 wr) (fun _ i _=>(intOf i+1).toNat)
 case atStart=>exact⟨b,rfl,Nat.le_refl _,.inr rfl,by rw[Nat.div_eq_of_lt HLT.out,digs_zero];exact Rd.nil _ _,Below.refl _ _⟩
 case round=>
  obtain⟨j,rfl,hj,hjn,hO,hB⟩:=hrel
  by_cases hgo:n<j
  ·obtain⟨t,rfl⟩:∃t,j=t+1:=⟨j-1,by omega⟩
   have ht:(((t+1:Nat):Int)-1)=(t:Int):=by omega
   rw[ht]
   have htd:decide ((n:Int)≤(t:Int))=true:=decide_eq_true (by omega)
   have hBt:=Lib.hid (rbit_any (i:=t) (RA.out.below hB) hlA (by omega))
   have e:=shr_bit A t
   have hm:A/2^t%2≤1:=by omega
   have hlq:(digs DD (A/2^(t+1))).length≤1000000:=Nat.le_trans (digsD_mono (Nat.div_le_self _ _)) hlA
   have hDo:=Lib.hid (rdouble_any (more:=A/2^t%2) hO hlq hm)
   rw[e]at hDo
   have E:=Lib.hid e
   generalize A/2^t%2=bt at*
   clear e
   go_wp2_with (first
    |(go_at_call 41;(with_reducible refine hBt.out.mono ?_);rintro e w2 ⟨rfl,rfl⟩)
    |(go_at_call 73;(with_reducible refine hDo.out.mono ?_);rintro e w3 ⟨v3,rfl,hv3,hb3⟩)
    |fail)
   go_round
   case rel=>exact⟨t,by go_num,by omega,.inl (by omega),hv3,hB.trans (hb3.mono hB.size)⟩
   case measure=>simp[intOf]
  ·have hd0:decide ((n:Int)≤(j:Int)-1)=false:=decide_eq_false (by omega)
   have hq:A/2^j=A/2^n:=by
    rcases Nat.lt_or_ge j n with h2|h2
    ·obtain rfl:j=b:=by rcases hjn with h3|h3;·omega
                        ·exact h3
     rw[Nat.div_eq_of_lt HLT.out,Nat.div_eq_of_lt (Nat.lt_of_lt_of_le HLT.out (Nat.pow_le_pow_right (by omega) (by omega)))]
    ·rw[show j=n by omega]
   rw[hq]at hO
   have HO:=Lib.hid (And.intro hO hB)
   clear hq hjn hO
   go_wp2
   go_loopw [9,10] (fun r i wr'=>∃(j:Nat) (ex:Bool),i= .int .i64 j∧j≤n∧j≤b∧r= .bool ex∧Hid (decide (A%2^j≠0)=ex)∧wr'=wr) (fun _ i _=>n-(intOf i).toNat)
   case atStart=>exact⟨0,false,rfl,Nat.zero_le _,Nat.zero_le _,rfl,Lib.hid (by rw[Nat.pow_zero,Nat.mod_one];rfl),rfl⟩
   case round=>
    obtain⟨t,ex,rfl,htn,htb,rfl,HEX,rfl⟩:=hrel
    by_cases hgo2:t<n∧t<b
    ·have hd1:decide (t<n)=true:=decide_eq_true hgo2.1
     have hd2:decide (t<b)=true:=decide_eq_true hgo2.2
     have hd1':decide ((t:Int)<(n:Int))=true:=decide_eq_true (by omega)
     have hd2':decide ((t:Int)<(b:Int))=true:=decide_eq_true (by omega)
     have hBt:=Lib.hid (rbit_any (i:=t) (RA.out.below HO.out.2) hlA (by omega))
     have hmb:=mod_bit A t
     obtain⟨bt,hbt⟩:∃bt,A/2^t%2=bt:=⟨_,rfl⟩
     rw[hbt]at hBt hmb
     have hbq:((bt:Int)==1)=decide (bt=1):=by
      by_cases h1:bt=1
      ·rw[h1];rfl
      ·rw[decide_eq_false h1];exact beq_false_of_ne (by omega)
     rw[HEX.out]at hmb
     have HMB:=Lib.hid hmb
     obtain⟨o1,ho1⟩:∃o,decide (bt=1)=o:=⟨_,rfl⟩
     rw[ho1]at hbq HMB
     clear hmb hbt ho1
     cases ex
     all_goals
      go_wp2_with (go_at_call 41;(with_reducible refine hBt.out.mono ?_);rintro e w2 ⟨rfl,rfl⟩)
      go_round
      case rel=>exact⟨t+1,_,by go_num,by omega,by omega,rfl,HMB,by first|rfl|trivial⟩
      case measure=>simp[intOf];omega
    ·have hEnd:decide (A%2^n≠0)=ex:=by
      rw[←HEX.out]
      rcases Nat.lt_or_ge t n with h2|h2
      ·obtain rfl:t=b:=by omega
       rw[Nat.mod_eq_of_lt HLT.out,Nat.mod_eq_of_lt (Nat.lt_of_lt_of_le HLT.out (Nat.pow_le_pow_right (by omega) (by omega)))]
      ·rw[show t=n by omega]
     have HE:=Lib.hid hEnd
     by_cases h3:t<n
     ·have hd1:decide (t<n)=true:=decide_eq_true h3
      have hd2:decide (t<b)=false:=decide_eq_false (by omega)
      clear hEnd
      go_wp2
      go_ret2
      exact⟨_,by rw[HE.out];rfl,HO.out.1,HO.out.2⟩
     ·have hd1:decide (t<n)=false:=decide_eq_false h3
      clear hEnd
      go_wp2
      go_ret2
      exact⟨_,by rw[HE.out];rfl,HO.out.1,HO.out.2⟩
end Go.Proofs.YtffaefjkpipjnaaGreatDoor
