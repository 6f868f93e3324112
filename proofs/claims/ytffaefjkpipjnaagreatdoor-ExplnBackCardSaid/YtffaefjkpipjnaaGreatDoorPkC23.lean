/- cascade.Go over a closure, told by the closure's contract. Conditions: no budget; the plan is short; the closure's contract. (Printed by wip/gen/gen_cas2.py.) -/
import Derived.Test.YtffaefjkpipjnaaGreatDoorPkC05
import Derived.Test.YtffaefjkpipjnaaGreatDoorPkC12
namespace Go.Proofs.YtffaefjkpipjnaaGreatDoor
set_option linter.unusedVariables false
set_option linter.unusedSimpArgs false
set_option maxRecDepth 100000
open Go.RowKit Go.ChangeShapes Go.WideShapes
theorem Blk.open9 {w:World}{b:Nat}{x0 x1 x2 x3 x4 x5 x6 x7 x8:Value}(h:Blk w b #[x0,x1,x2,x3,x4,x5,x6,x7,x8]):w.cell? ⟨b,0,none⟩=some x0∧w.cell? ⟨b,1,none⟩=some x1∧w.cell? ⟨b,2,none⟩=some x2∧w.cell? ⟨b,3,none⟩=some x3∧w.cell? ⟨b,4,none⟩=some x4∧w.cell? ⟨b,5,none⟩=some x5∧w.cell? ⟨b,6,none⟩=some x6∧w.cell? ⟨b,7,none⟩=some x7∧w.cell? ⟨b,8,none⟩=some x8∧w.frozen? ⟨b,0,none⟩=false∧w.frozen? ⟨b,1,none⟩=false∧w.frozen? ⟨b,2,none⟩=false∧w.frozen? ⟨b,3,none⟩=false∧w.frozen? ⟨b,4,none⟩=false∧w.frozen? ⟨b,5,none⟩=false∧w.frozen? ⟨b,6,none⟩=false∧w.frozen? ⟨b,7,none⟩=false∧w.frozen? ⟨b,8,none⟩=false∧b<w.heap.size:=by
 obtain⟨h1,T,h2⟩:=h
 exact⟨cell_at h2 rfl,cell_at h2 rfl,cell_at h2 rfl,cell_at h2 rfl,cell_at h2 rfl,cell_at h2 rfl,cell_at h2 rfl,cell_at h2 rfl,cell_at h2 rfl,free_at h2,free_at h2,free_at h2,free_at h2,free_at h2,free_at h2,free_at h2,free_at h2,free_at h2,h1⟩
theorem Blk.open12 {w:World}{b:Nat}{x0 x1 x2 x3 x4 x5 x6 x7 x8 x9 x10 x11:Value}(h:Blk w b #[x0,x1,x2,x3,x4,x5,x6,x7,x8,x9,x10,x11]):w.cell? ⟨b,0,none⟩=some x0∧w.cell? ⟨b,1,none⟩=some x1∧w.cell? ⟨b,2,none⟩=some x2∧w.cell? ⟨b,3,none⟩=some x3∧w.cell? ⟨b,4,none⟩=some x4∧w.cell? ⟨b,5,none⟩=some x5∧w.cell? ⟨b,6,none⟩=some x6∧w.cell? ⟨b,7,none⟩=some x7∧w.cell? ⟨b,8,none⟩=some x8∧w.cell? ⟨b,9,none⟩=some x9∧w.cell? ⟨b,10,none⟩=some x10∧w.cell? ⟨b,11,none⟩=some x11∧w.frozen? ⟨b,0,none⟩=false∧w.frozen? ⟨b,1,none⟩=false∧w.frozen? ⟨b,2,none⟩=false∧w.frozen? ⟨b,3,none⟩=false∧w.frozen? ⟨b,4,none⟩=false∧w.frozen? ⟨b,5,none⟩=false∧w.frozen? ⟨b,6,none⟩=false∧w.frozen? ⟨b,7,none⟩=false∧w.frozen? ⟨b,8,none⟩=false∧w.frozen? ⟨b,9,none⟩=false∧w.frozen? ⟨b,10,none⟩=false∧w.frozen? ⟨b,11,none⟩=false∧b<w.heap.size:=by
 obtain⟨h1,T,h2⟩:=h
 exact⟨cell_at h2 rfl,cell_at h2 rfl,cell_at h2 rfl,cell_at h2 rfl,cell_at h2 rfl,cell_at h2 rfl,cell_at h2 rfl,cell_at h2 rfl,cell_at h2 rfl,cell_at h2 rfl,cell_at h2 rfl,cell_at h2 rfl,free_at h2,free_at h2,free_at h2,free_at h2,free_at h2,free_at h2,free_at h2,free_at h2,free_at h2,free_at h2,free_at h2,free_at h2,h1⟩
theorem Blk.setAt {w:World}{b:Nat}{c:Array Value}(h:Blk w b c) (k:Nat) (v:Value):Blk (w.setCell ⟨b,k,none⟩ v) b (c.setIfInBounds k v):=by
 obtain⟨h1,T,h2⟩:=h
 exact⟨by simpa[World.setCell]using h1,T,heap_setC h2 v⟩
theorem fr_set1 {w w':World}{b:Nat}(h:Fr (fun g=>g=b) w w') (k:Nat) (v:Value):Fr (fun g=>g=b) w (w'.setCell ⟨b,k,none⟩ v):=h.setCell (p:=⟨b,k,none⟩) rfl v
theorem Blk.setA {w:World}{b:Nat}{x0 x1 x2 x3 x4 x5 x6 x7 x8 x9 x10 x11:Value}(h:Blk w b #[x0,x1,x2,x3,x4,x5,x6,x7,x8,x9,x10,x11]) (y0 y1 y2 y3 y4 y5 y6 y7 y8 y9:Value):Blk (((((((((((w).setCell ⟨b,0,none⟩ y0).setCell ⟨b,1,none⟩ y1).setCell ⟨b,2,none⟩ y2).setCell ⟨b,3,none⟩ y3).setCell ⟨b,4,none⟩ y4).setCell ⟨b,5,none⟩ y5).setCell ⟨b,6,none⟩ y6).setCell ⟨b,7,none⟩ y7).setCell ⟨b,8,none⟩ y8).setCell ⟨b,9,none⟩ y9) b #[y0,y1,y2,y3,y4,y5,y6,y7,y8,y9,x10,x11]:=by
 have h0:Blk (w.setCell ⟨b,0,none⟩ y0) b #[y0,x1,x2,x3,x4,x5,x6,x7,x8,x9,x10,x11]:=h.setAt 0 y0
 generalize w.setCell ⟨b,0,none⟩ y0=w1 at h0⊢
 have h1:Blk (w1.setCell ⟨b,1,none⟩ y1) b #[y0,y1,x2,x3,x4,x5,x6,x7,x8,x9,x10,x11]:=h0.setAt 1 y1
 generalize w1.setCell ⟨b,1,none⟩ y1=w2 at h1⊢
 have h2:Blk (w2.setCell ⟨b,2,none⟩ y2) b #[y0,y1,y2,x3,x4,x5,x6,x7,x8,x9,x10,x11]:=h1.setAt 2 y2
 generalize w2.setCell ⟨b,2,none⟩ y2=w3 at h2⊢
 have h3:Blk (w3.setCell ⟨b,3,none⟩ y3) b #[y0,y1,y2,y3,x4,x5,x6,x7,x8,x9,x10,x11]:=h2.setAt 3 y3
 generalize w3.setCell ⟨b,3,none⟩ y3=w4 at h3⊢
 have h4:Blk (w4.setCell ⟨b,4,none⟩ y4) b #[y0,y1,y2,y3,y4,x5,x6,x7,x8,x9,x10,x11]:=h3.setAt 4 y4
 generalize w4.setCell ⟨b,4,none⟩ y4=w5 at h4⊢
 have h5:Blk (w5.setCell ⟨b,5,none⟩ y5) b #[y0,y1,y2,y3,y4,y5,x6,x7,x8,x9,x10,x11]:=h4.setAt 5 y5
 generalize w5.setCell ⟨b,5,none⟩ y5=w6 at h5⊢
 have h6:Blk (w6.setCell ⟨b,6,none⟩ y6) b #[y0,y1,y2,y3,y4,y5,y6,x7,x8,x9,x10,x11]:=h5.setAt 6 y6
 generalize w6.setCell ⟨b,6,none⟩ y6=w7 at h6⊢
 have h7:Blk (w7.setCell ⟨b,7,none⟩ y7) b #[y0,y1,y2,y3,y4,y5,y6,y7,x8,x9,x10,x11]:=h6.setAt 7 y7
 generalize w7.setCell ⟨b,7,none⟩ y7=w8 at h7⊢
 have h8:Blk (w8.setCell ⟨b,8,none⟩ y8) b #[y0,y1,y2,y3,y4,y5,y6,y7,y8,x9,x10,x11]:=h7.setAt 8 y8
 generalize w8.setCell ⟨b,8,none⟩ y8=w9 at h8⊢
 have h9:Blk (w9.setCell ⟨b,9,none⟩ y9) b #[y0,y1,y2,y3,y4,y5,y6,y7,y8,y9,x10,x11]:=h8.setAt 9 y9
 generalize w9.setCell ⟨b,9,none⟩ y9=w10 at h9⊢
 exact h9
theorem Fr.setA {w:World}{b:Nat}(y0 y1 y2 y3 y4 y5 y6 y7 y8 y9:Value):Fr (fun g=>g=b) w (((((((((((w).setCell ⟨b,0,none⟩ y0).setCell ⟨b,1,none⟩ y1).setCell ⟨b,2,none⟩ y2).setCell ⟨b,3,none⟩ y3).setCell ⟨b,4,none⟩ y4).setCell ⟨b,5,none⟩ y5).setCell ⟨b,6,none⟩ y6).setCell ⟨b,7,none⟩ y7).setCell ⟨b,8,none⟩ y8).setCell ⟨b,9,none⟩ y9):=by
 have h0:Fr (fun g=>g=b) w (w.setCell ⟨b,0,none⟩ y0):=fr_set1 (Fr.refl _ w) 0 y0
 generalize w.setCell ⟨b,0,none⟩ y0=w1 at h0⊢
 have h1:Fr (fun g=>g=b) w (w1.setCell ⟨b,1,none⟩ y1):=fr_set1 h0 1 y1
 generalize w1.setCell ⟨b,1,none⟩ y1=w2 at h1⊢
 have h2:Fr (fun g=>g=b) w (w2.setCell ⟨b,2,none⟩ y2):=fr_set1 h1 2 y2
 generalize w2.setCell ⟨b,2,none⟩ y2=w3 at h2⊢
 have h3:Fr (fun g=>g=b) w (w3.setCell ⟨b,3,none⟩ y3):=fr_set1 h2 3 y3
 generalize w3.setCell ⟨b,3,none⟩ y3=w4 at h3⊢
 have h4:Fr (fun g=>g=b) w (w4.setCell ⟨b,4,none⟩ y4):=fr_set1 h3 4 y4
 generalize w4.setCell ⟨b,4,none⟩ y4=w5 at h4⊢
 have h5:Fr (fun g=>g=b) w (w5.setCell ⟨b,5,none⟩ y5):=fr_set1 h4 5 y5
 generalize w5.setCell ⟨b,5,none⟩ y5=w6 at h5⊢
 have h6:Fr (fun g=>g=b) w (w6.setCell ⟨b,6,none⟩ y6):=fr_set1 h5 6 y6
 generalize w6.setCell ⟨b,6,none⟩ y6=w7 at h6⊢
 have h7:Fr (fun g=>g=b) w (w7.setCell ⟨b,7,none⟩ y7):=fr_set1 h6 7 y7
 generalize w7.setCell ⟨b,7,none⟩ y7=w8 at h7⊢
 have h8:Fr (fun g=>g=b) w (w8.setCell ⟨b,8,none⟩ y8):=fr_set1 h7 8 y8
 generalize w8.setCell ⟨b,8,none⟩ y8=w9 at h8⊢
 have h9:Fr (fun g=>g=b) w (w9.setCell ⟨b,9,none⟩ y9):=fr_set1 h8 9 y9
 generalize w9.setCell ⟨b,9,none⟩ y9=w10 at h9⊢
 exact h9
theorem Blk.setB {w:World}{b:Nat}{x0 x1 x2 x3 x4 x5 x6 x7 x8 x9 x10 x11:Value}(h:Blk w b #[x0,x1,x2,x3,x4,x5,x6,x7,x8,x9,x10,x11]) (y0 y1 y2 y3 y4 y5 y6 y7 y8 y9 y10 y11:Value):Blk (((((((((((((w).setCell ⟨b,0,none⟩ y0).setCell ⟨b,1,none⟩ y1).setCell ⟨b,2,none⟩ y2).setCell ⟨b,3,none⟩ y3).setCell ⟨b,4,none⟩ y4).setCell ⟨b,5,none⟩ y5).setCell ⟨b,6,none⟩ y6).setCell ⟨b,7,none⟩ y7).setCell ⟨b,8,none⟩ y8).setCell ⟨b,9,none⟩ y9).setCell ⟨b,10,none⟩ y10).setCell ⟨b,11,none⟩ y11) b #[y0,y1,y2,y3,y4,y5,y6,y7,y8,y9,y10,y11]:=by
 have h0:Blk (w.setCell ⟨b,0,none⟩ y0) b #[y0,x1,x2,x3,x4,x5,x6,x7,x8,x9,x10,x11]:=h.setAt 0 y0
 generalize w.setCell ⟨b,0,none⟩ y0=w1 at h0⊢
 have h1:Blk (w1.setCell ⟨b,1,none⟩ y1) b #[y0,y1,x2,x3,x4,x5,x6,x7,x8,x9,x10,x11]:=h0.setAt 1 y1
 generalize w1.setCell ⟨b,1,none⟩ y1=w2 at h1⊢
 have h2:Blk (w2.setCell ⟨b,2,none⟩ y2) b #[y0,y1,y2,x3,x4,x5,x6,x7,x8,x9,x10,x11]:=h1.setAt 2 y2
 generalize w2.setCell ⟨b,2,none⟩ y2=w3 at h2⊢
 have h3:Blk (w3.setCell ⟨b,3,none⟩ y3) b #[y0,y1,y2,y3,x4,x5,x6,x7,x8,x9,x10,x11]:=h2.setAt 3 y3
 generalize w3.setCell ⟨b,3,none⟩ y3=w4 at h3⊢
 have h4:Blk (w4.setCell ⟨b,4,none⟩ y4) b #[y0,y1,y2,y3,y4,x5,x6,x7,x8,x9,x10,x11]:=h3.setAt 4 y4
 generalize w4.setCell ⟨b,4,none⟩ y4=w5 at h4⊢
 have h5:Blk (w5.setCell ⟨b,5,none⟩ y5) b #[y0,y1,y2,y3,y4,y5,x6,x7,x8,x9,x10,x11]:=h4.setAt 5 y5
 generalize w5.setCell ⟨b,5,none⟩ y5=w6 at h5⊢
 have h6:Blk (w6.setCell ⟨b,6,none⟩ y6) b #[y0,y1,y2,y3,y4,y5,y6,x7,x8,x9,x10,x11]:=h5.setAt 6 y6
 generalize w6.setCell ⟨b,6,none⟩ y6=w7 at h6⊢
 have h7:Blk (w7.setCell ⟨b,7,none⟩ y7) b #[y0,y1,y2,y3,y4,y5,y6,y7,x8,x9,x10,x11]:=h6.setAt 7 y7
 generalize w7.setCell ⟨b,7,none⟩ y7=w8 at h7⊢
 have h8:Blk (w8.setCell ⟨b,8,none⟩ y8) b #[y0,y1,y2,y3,y4,y5,y6,y7,y8,x9,x10,x11]:=h7.setAt 8 y8
 generalize w8.setCell ⟨b,8,none⟩ y8=w9 at h8⊢
 have h9:Blk (w9.setCell ⟨b,9,none⟩ y9) b #[y0,y1,y2,y3,y4,y5,y6,y7,y8,y9,x10,x11]:=h8.setAt 9 y9
 generalize w9.setCell ⟨b,9,none⟩ y9=w10 at h9⊢
 have h10:Blk (w10.setCell ⟨b,10,none⟩ y10) b #[y0,y1,y2,y3,y4,y5,y6,y7,y8,y9,y10,x11]:=h9.setAt 10 y10
 generalize w10.setCell ⟨b,10,none⟩ y10=w11 at h10⊢
 have h11:Blk (w11.setCell ⟨b,11,none⟩ y11) b #[y0,y1,y2,y3,y4,y5,y6,y7,y8,y9,y10,y11]:=h10.setAt 11 y11
 generalize w11.setCell ⟨b,11,none⟩ y11=w12 at h11⊢
 exact h11
theorem Fr.setB {w:World}{b:Nat}(y0 y1 y2 y3 y4 y5 y6 y7 y8 y9 y10 y11:Value):Fr (fun g=>g=b) w (((((((((((((w).setCell ⟨b,0,none⟩ y0).setCell ⟨b,1,none⟩ y1).setCell ⟨b,2,none⟩ y2).setCell ⟨b,3,none⟩ y3).setCell ⟨b,4,none⟩ y4).setCell ⟨b,5,none⟩ y5).setCell ⟨b,6,none⟩ y6).setCell ⟨b,7,none⟩ y7).setCell ⟨b,8,none⟩ y8).setCell ⟨b,9,none⟩ y9).setCell ⟨b,10,none⟩ y10).setCell ⟨b,11,none⟩ y11):=by
 have h0:Fr (fun g=>g=b) w (w.setCell ⟨b,0,none⟩ y0):=fr_set1 (Fr.refl _ w) 0 y0
 generalize w.setCell ⟨b,0,none⟩ y0=w1 at h0⊢
 have h1:Fr (fun g=>g=b) w (w1.setCell ⟨b,1,none⟩ y1):=fr_set1 h0 1 y1
 generalize w1.setCell ⟨b,1,none⟩ y1=w2 at h1⊢
 have h2:Fr (fun g=>g=b) w (w2.setCell ⟨b,2,none⟩ y2):=fr_set1 h1 2 y2
 generalize w2.setCell ⟨b,2,none⟩ y2=w3 at h2⊢
 have h3:Fr (fun g=>g=b) w (w3.setCell ⟨b,3,none⟩ y3):=fr_set1 h2 3 y3
 generalize w3.setCell ⟨b,3,none⟩ y3=w4 at h3⊢
 have h4:Fr (fun g=>g=b) w (w4.setCell ⟨b,4,none⟩ y4):=fr_set1 h3 4 y4
 generalize w4.setCell ⟨b,4,none⟩ y4=w5 at h4⊢
 have h5:Fr (fun g=>g=b) w (w5.setCell ⟨b,5,none⟩ y5):=fr_set1 h4 5 y5
 generalize w5.setCell ⟨b,5,none⟩ y5=w6 at h5⊢
 have h6:Fr (fun g=>g=b) w (w6.setCell ⟨b,6,none⟩ y6):=fr_set1 h5 6 y6
 generalize w6.setCell ⟨b,6,none⟩ y6=w7 at h6⊢
 have h7:Fr (fun g=>g=b) w (w7.setCell ⟨b,7,none⟩ y7):=fr_set1 h6 7 y7
 generalize w7.setCell ⟨b,7,none⟩ y7=w8 at h7⊢
 have h8:Fr (fun g=>g=b) w (w8.setCell ⟨b,8,none⟩ y8):=fr_set1 h7 8 y8
 generalize w8.setCell ⟨b,8,none⟩ y8=w9 at h8⊢
 have h9:Fr (fun g=>g=b) w (w9.setCell ⟨b,9,none⟩ y9):=fr_set1 h8 9 y9
 generalize w9.setCell ⟨b,9,none⟩ y9=w10 at h9⊢
 have h10:Fr (fun g=>g=b) w (w10.setCell ⟨b,10,none⟩ y10):=fr_set1 h9 10 y10
 generalize w10.setCell ⟨b,10,none⟩ y10=w11 at h10⊢
 have h11:Fr (fun g=>g=b) w (w11.setCell ⟨b,11,none⟩ y11):=fr_set1 h10 11 y11
 generalize w11.setCell ⟨b,11,none⟩ y11=w12 at h11⊢
 exact h11
theorem RdN.away0 {w:World}{v:Value}{m b:Nat}{c:Array Value}(h:RdN w v (digs BB m)) (hB:Blk w b c) (hc:∀x∈c.toList,∀n:Nat,x=L64 n→n=0):Rd (fun g=>g≠b) w v ((digs BB m).map L64):=by
 obtain⟨a,k,h1,h2,h3,h4,h5⟩:=h
 obtain⟨hb,T,hh⟩:=hB
 refine⟨a,k,h1,h2,h3,h4,fun j u hj=>?_⟩
 obtain⟨g,off,e1,_,e3⟩:=h5 j u hj
 refine⟨g,off,e1,fun e=>?_,e3⟩
 subst e
 have hne:digs BB m≠[]:=by
  intro h0
  rw[h0]at hj
  simp at hj
 have htop:=strip_top (l:=digs BB m) (by rw[strip_digs BB_two];exact hne)
 rw[strip_digs BB_two]at htop
 have hl:=List.length_pos_iff.2 hne
 have hlast:((digs BB m).map L64)[(digs BB m).length-1]?=some (L64 ((digs BB m).getD ((digs BB m).length-1) 0)):=by
  rw[List.getElem?_map,List.getElem?_eq_getElem (by omega),List.getD_eq_getElem?_getD,List.getElem?_eq_getElem (by omega)];rfl
 obtain⟨g',off',f1,_,f3⟩:=h5 _ _ hlast
 rw[e1]at f1
 injection f1 with f1
 injection f1 with f1 f2 _
 subst f1 f2
 rw[World.cell?,hh]at f3
 have f4:c[off+((digs BB m).length-1)]?=some (L64 ((digs BB m).getD ((digs BB m).length-1) 0)):=by simpa using f3
 rw[←Array.getElem?_toList]at f4
 exact htop (hc _ (List.mem_of_getElem? f4) _ rfl)
theorem zcells {n1 n2:Bool}{f e1 e2 nb tr en:Int}{a1 a2:Option Addr}{l1 l2 k1 k2:Nat}:∀x∈(#[L64 0,.int .u8 f,.int .i64 0,.bool n1,.slice a1 l1 k1,.int .i64 e1,.bool n2,.slice a2 l2 k2,.int .i64 e2,.int .i64 nb,.int .i64 tr,.int .i64 en]:Array Value).toList,∀n:Nat,x=L64 n→n=0:=by
 intro x hx n h
 simp at hx
 rcases hx with rfl|rfl|rfl|rfl|rfl|rfl|rfl|rfl|rfl|rfl|rfl|rfl<;>(simp[L64]at h)<;>omega
theorem zcells0:∀x∈(#[.int .u64 0,.int .u8 0,.int .i64 0,.bool false,.slice none 0 0,.int .i64 0,.bool false,.slice none 0 0,.int .i64 0,.int .i64 0,.int .i64 0,.int .i64 0]:Array Value).toList,∀n:Nat,x=L64 n→n=0:=by
 intro x hx n h
 rw[h]at hx
 simpa[L64]using hx
def AnsR (P:Nat→Bool→Nat→Int→Dn→Dn→Prop) (w:World) (c:Array Value) (ok:Bool) (n:Nat):Prop:=
 ∃b f n1 m1 e1 n2 m2 e2 a1 k1 a2 k2,c= #[L64 b,.int .u8 f,.int .i64 0,.bool n1,.slice a1 (digs BB m1).length k1,.int .i64 e1,.bool n2,.slice a2 (digs BB m2).length k2,.int .i64 e2]∧P n ok b f ⟨n1,m1,e1⟩ ⟨n2,m2,e2⟩∧(ok=false→b=0)∧RdN w (.slice a1 (digs BB m1).length k1) (digs BB m1)∧RdN w (.slice a2 (digs BB m2).length k2) (digs BB m2)
def Failed (P:Nat→Bool→Nat→Int→Dn→Dn→Prop) (l:List Nat) (j:Nat):Prop:=∃n b f lo hi,l[j]?=some n∧P n false b f lo hi
def GoSt (P:Nat→Bool→Nat→Int→Dn→Dn→Prop) (w0:World) (b8:Nat) (l:List Nat) (i:Nat) (wr:World):Prop:=
 ∃b f n1 m1 e1 n2 m2 e2 a1 k1 a2 k2 nb,Blk wr b8 #[L64 b,.int .u8 f,.int .i64 0,.bool n1,.slice a1 (digs BB m1).length k1,.int .i64 e1,.bool n2,.slice a2 (digs BB m2).length k2,.int .i64 e2,.int .i64 nb,.int .i64 (i:Int),.int .i64 2]∧(i=0∨∃n,l[i-1]?=some n∧P n false b f ⟨n1,m1,e1⟩ ⟨n2,m2,e2⟩)∧(∀j,j<i→Failed P l j)∧b=0∧RdN wr (.slice a1 (digs BB m1).length k1) (digs BB m1)∧RdN wr (.slice a2 (digs BB m2).length k2) (digs BB m2)∧Below w0.heap.size w0 wr
set_option maxHeartbeats 1000000 in
theorem cgo_n {w:World}{v:Value}{l:List Nat}{P:Nat→Bool→Nat→Int→Dn→Dn→Prop}{p0 p1 p2:Value}(h:RdI w v l) (hl:l.length≤9) (hl1:1≤l.length)
 (HC:∀(w':World) (n:Nat),n∈l→Below w.heap.size w w'→Calls Tryz.prog 57 #[.int .i64 (n:Int),p0,p1,p2] w' (fun e w''=>∃c ok,e= .returned (.tuple #[.agg c,.bool ok])∧AnsR P w'' c ok n∧Below w'.heap.size w' w'')):
 Calls Tryz.prog 56 #[v,.pointer none,.func (.func 57) #[] #[p0,p1,p2]] w (fun e w'=>∃c nb tr en,e= .returned (.tuple #[.agg (c++ #[.int .i64 nb,.int .i64 tr,.int .i64 en]),.int .i64 0])∧((en=0∧∃(i n:Nat),i<9∧tr=((i+1:Nat):Int)∧l[i]?=some n∧(∀j,j<i→Failed P l j)∧AnsR P w' c true n)∨(en=2∧tr=(l.length:Int)∧(∀j,j<l.length→Failed P l j)∧∃n,l[l.length-1]?=some n∧AnsR P w' c false n))∧Below w.heap.size w w'):=by
 obtain⟨av,kv,rfl,hlk,hkm,-,hcells⟩:=h.view
 have H:=Lib.hid h
 have HC:=Lib.hid HC
 clear h hcells
 have heq:∀(w:World),Sem.run Tryz.prog (binOp BinOp.eql 109 (.func (.func 57) #[] #[p0,p1,p2]) Value.nilFunc) w= .ok (.bool false) w:=fun _=>by kernel_rfl
 go_enter Tryz.func56,Tryz.ntmps56
 go_upto_region 5 with fail
 have hA1:=below_alloc w (.cells #[.int .u64 0,.int .u8 0,.int .i64 0,.bool false,.slice none 0 0,.int .i64 0,.bool false,.slice none 0 0,.int .i64 0,.int .i64 0,.int .i64 0,.int .i64 0] 105 (0,0))
 have R1:Blk (w.alloc (.cells #[.int .u64 0,.int .u8 0,.int .i64 0,.bool false,.slice none 0 0,.int .i64 0,.bool false,.slice none 0 0,.int .i64 0,.int .i64 0,.int .i64 0,.int .i64 0] 105 (0,0))) w.heap.size #[.int .u64 0,.int .u8 0,.int .i64 0,.bool false,.slice none 0 0,.int .i64 0,.bool false,.slice none 0 0,.int .i64 0,.int .i64 0,.int .i64 0,.int .i64 0]:=blk_new
 have hs1:(w.alloc (.cells #[.int .u64 0,.int .u8 0,.int .i64 0,.bool false,.slice none 0 0,.int .i64 0,.bool false,.slice none 0 0,.int .i64 0,.int .i64 0,.int .i64 0,.int .i64 0] 105 (0,0))).heap.size=w.heap.size+1:=by simp
 generalize w.alloc (.cells #[.int .u64 0,.int .u8 0,.int .i64 0,.bool false,.slice none 0 0,.int .i64 0,.bool false,.slice none 0 0,.int .i64 0,.int .i64 0,.int .i64 0,.int .i64 0] 105 (0,0))=w1 at*
 rw[←hs1]
 replace hs1:=Lib.hid hs1
 have Q2:Blk (w1.alloc (.cells #[.int .u64 0,.int .u8 0,.int .i64 0,.bool false,.slice none 0 0,.int .i64 0,.bool false,.slice none 0 0,.int .i64 0,.int .i64 0,.int .i64 0,.int .i64 2] 105 (0,0))) w1.heap.size #[.int .u64 0,.int .u8 0,.int .i64 0,.bool false,.slice none 0 0,.int .i64 0,.bool false,.slice none 0 0,.int .i64 0,.int .i64 0,.int .i64 0,.int .i64 2]:=blk_new
 obtain⟨b8,hb8⟩:∃b,w1.heap.size=b:=⟨_,rfl⟩
 rw[hb8]at Q2⊢
 replace hb8:=Lib.hid hb8
 go_wp2_with fail
 go_loopw [19] (fun iv wr=>∃i:Nat,iv= .int .i64 (i:Int)∧i≤l.length∧GoSt P w1 b8 l i wr) (fun iv _=>l.length-(intOf iv).toNat)
 case atStart=>exact⟨0,rfl,Nat.zero_le _,0,0,false,0,0,false,0,0,none,0,none,0,0,by rw[digs_zero];exact Q2,.inl rfl,(fun j hj=>absurd hj (Nat.not_lt_zero _)),rfl,by rw[digs_zero];exact RdN.nil _,by rw[digs_zero];exact RdN.nil _,below_alloc _ _⟩
 case round=>
  clear Q2
  obtain⟨i,rfl,hi,b,f,n1,m1,e1,n2,m2,e2,a1,k1,a2,k2,nb,Q,hP,hF,hb0,x,y,hB⟩:=hrel
  rename World=>wr
  have hBw:=Lib.hid (hA1.trans (hB.mono hA1.size))
  replace hP:=Lib.hid hP;replace hF:=Lib.hid hF;have hB':=Lib.hid hB
  subst hb0
  by_cases hlt:i<l.length
  ·obtain⟨n,hn⟩:∃n,l[i]?=some n:=⟨l[i],List.getElem?_eq_getElem hlt⟩
   have hmem:=hn
   obtain⟨a0,c0,e1',-,-,-,hcell⟩:=(H.out.below hBw.out).view
   injection e1' with e1' e2' e3'
   subst e1' e3'
   obtain⟨gg,off,rfl,hgl,hcell⟩:=hcell i hlt
   rw[hn,Option.getD_some]at hcell
   clear e2'
   have HCn:=Lib.hid (HC.out wr n (List.mem_of_getElem? hmem) hBw.out)
   replace hmem:=Lib.hid hmem
   clear hn
   have di:decide ((i:Int)<(l.length:Int))=true:=decide_eq_true (by omega)
   have di':decide (i<l.length)=true:=decide_eq_true hlt
   have wi:IntKind.i64.wrap ((i:Int)+1)=((i+1:Nat):Int):=by rw[IntKind.wrap_i64];omega
   go_upto_region 11 with(first
    |(go_at_call 57;(with_reducible refine HCn.out.mono ?_);rintro e wz ⟨c,ok,rfl,⟨b',f',n1',m1',e1',n2',m2',e2',a1',k1',a2',k2',rfl,hP',hok,x',y'⟩,hz⟩)
    |fail)
   have hAz:=below_alloc wz (.cells #[L64 b',.int .u8 f',.int .i64 0,.bool n1',.slice a1' (digs BB m1').length k1',.int .i64 e1',.bool n2',.slice a2' (digs BB m2').length k2',.int .i64 e2'] 102)
   have R9:Blk (wz.alloc (.cells #[L64 b',.int .u8 f',.int .i64 0,.bool n1',.slice a1' (digs BB m1').length k1',.int .i64 e1',.bool n2',.slice a2' (digs BB m2').length k2',.int .i64 e2'] 102)) wz.heap.size #[L64 b',.int .u8 f',.int .i64 0,.bool n1',.slice a1' (digs BB m1').length k1',.int .i64 e1',.bool n2',.slice a2' (digs BB m2').length k2',.int .i64 e2']:=blk_new
   have hsz:(wz.alloc (.cells #[L64 b',.int .u8 f',.int .i64 0,.bool n1',.slice a1' (digs BB m1').length k1',.int .i64 e1',.bool n2',.slice a2' (digs BB m2').length k2',.int .i64 e2'] 102)).heap.size=wz.heap.size+1:=by simp
   have Qa:=(Q.below hz).below hAz
   have hbb:=(Q.below hz).1
   have xa:=x'.below hAz
   have ya:=y'.below hAz
   have hBa:Below w1.heap.size w1 (wz.alloc (.cells #[L64 b',.int .u8 f',.int .i64 0,.bool n1',.slice a1' (digs BB m1').length k1',.int .i64 e1',.bool n2',.slice a2' (digs BB m2').length k2',.int .i64 e2'] 102)):=(hB.trans (hz.mono hB.size)).trans (hAz.mono (Nat.le_trans hB.size hz.size))
   change Code.wp _ _ _ _ (wz.alloc (.cells #[L64 b',.int .u8 f',.int .i64 0,.bool n1',.slice a1' (digs BB m1').length k1',.int .i64 e1',.bool n2',.slice a2' (digs BB m2').length k2',.int .i64 e2'] 102))
   generalize wz.alloc (.cells #[L64 b',.int .u8 f',.int .i64 0,.bool n1',.slice a1' (digs BB m1').length k1',.int .i64 e1',.bool n2',.slice a2' (digs BB m2').length k2',.int .i64 e2'] 102)=wa at*
   obtain⟨b9,hb9⟩:∃b,wz.heap.size=b:=⟨_,rfl⟩
   rw[hb9]at R9 hsz hbb⊢
   have hne:b9≠b8:=by omega
   obtain⟨r0,r1,r2,r3,r4,r5,r6,r7,r8,-⟩:=R9.open9
   obtain⟨q0,q1,q2,q3,q4,q5,q6,q7,q8,q9,q10,q11,q12,q13,q14,q15,q16,q17,q18,q19,q20,q21,q22,q23,q24⟩:=Qa.open12
   replace hb9:=Lib.hid hb9
   replace hP':=Lib.hid hP'
   replace hok:=Lib.hid hok
   clear hz hAz Q x' y' hBw hB' hB hP x y HCn
   go_upto_region 12 with fail
   have Qb:=Qa.setA (L64 b') (.int .u8 f') (.int .i64 0) (.bool n1') (.slice a1' (digs BB m1').length k1') (.int .i64 e1') (.bool n2') (.slice a2' (digs BB m2').length k2') (.int .i64 e2') (.int .i64 n)
   have FA:=Fr.setA (w:=wa) (b:=b8) (L64 b') (.int .u8 f') (.int .i64 0) (.bool n1') (.slice a1' (digs BB m1').length k1') (.int .i64 e1') (.bool n2') (.slice a2' (digs BB m2').length k2') (.int .i64 e2') (.int .i64 n)
   have X:Rd (fun g=>g≠b8) (((((((((((wa).setCell ⟨b8,0,none⟩ (L64 b')).setCell ⟨b8,1,none⟩ (.int .u8 f')).setCell ⟨b8,2,none⟩ (.int .i64 0)).setCell ⟨b8,3,none⟩ (.bool n1')).setCell ⟨b8,4,none⟩ (.slice a1' (digs BB m1').length k1')).setCell ⟨b8,5,none⟩ (.int .i64 e1')).setCell ⟨b8,6,none⟩ (.bool n2')).setCell ⟨b8,7,none⟩ (.slice a2' (digs BB m2').length k2')).setCell ⟨b8,8,none⟩ (.int .i64 e2')).setCell ⟨b8,9,none⟩ (.int .i64 n)) (.slice a1' (digs BB m1').length k1') ((digs BB m1').map L64):=(xa.away0 Qa zcells).keep FA (fun _ h=>h)
   have Y:Rd (fun g=>g≠b8) (((((((((((wa).setCell ⟨b8,0,none⟩ (L64 b')).setCell ⟨b8,1,none⟩ (.int .u8 f')).setCell ⟨b8,2,none⟩ (.int .i64 0)).setCell ⟨b8,3,none⟩ (.bool n1')).setCell ⟨b8,4,none⟩ (.slice a1' (digs BB m1').length k1')).setCell ⟨b8,5,none⟩ (.int .i64 e1')).setCell ⟨b8,6,none⟩ (.bool n2')).setCell ⟨b8,7,none⟩ (.slice a2' (digs BB m2').length k2')).setCell ⟨b8,8,none⟩ (.int .i64 e2')).setCell ⟨b8,9,none⟩ (.int .i64 n)) (.slice a2' (digs BB m2').length k2') ((digs BB m2').map L64):=(ya.away0 Qa zcells).keep FA (fun _ h=>h)
   have hb81:w1.heap.size≤b8:=by rw[hb8.out];exact Nat.le_refl _
   have hBb:Below w1.heap.size w1 (((((((((((wa).setCell ⟨b8,0,none⟩ (L64 b')).setCell ⟨b8,1,none⟩ (.int .u8 f')).setCell ⟨b8,2,none⟩ (.int .i64 0)).setCell ⟨b8,3,none⟩ (.bool n1')).setCell ⟨b8,4,none⟩ (.slice a1' (digs BB m1').length k1')).setCell ⟨b8,5,none⟩ (.int .i64 e1')).setCell ⟨b8,6,none⟩ (.bool n2')).setCell ⟨b8,7,none⟩ (.slice a2' (digs BB m2').length k2')).setCell ⟨b8,8,none⟩ (.int .i64 e2')).setCell ⟨b8,9,none⟩ (.int .i64 n)):=hBa.trans (FA.below hBa.size (fun k hk e=>by omega))
   change Code.wp _ _ _ _ (((((((((((wa).setCell ⟨b8,0,none⟩ (L64 b')).setCell ⟨b8,1,none⟩ (.int .u8 f')).setCell ⟨b8,2,none⟩ (.int .i64 0)).setCell ⟨b8,3,none⟩ (.bool n1')).setCell ⟨b8,4,none⟩ (.slice a1' (digs BB m1').length k1')).setCell ⟨b8,5,none⟩ (.int .i64 e1')).setCell ⟨b8,6,none⟩ (.bool n2')).setCell ⟨b8,7,none⟩ (.slice a2' (digs BB m2').length k2')).setCell ⟨b8,8,none⟩ (.int .i64 e2')).setCell ⟨b8,9,none⟩ (.int .i64 n))
   generalize ((((((((((wa).setCell ⟨b8,0,none⟩ (L64 b')).setCell ⟨b8,1,none⟩ (.int .u8 f')).setCell ⟨b8,2,none⟩ (.int .i64 0)).setCell ⟨b8,3,none⟩ (.bool n1')).setCell ⟨b8,4,none⟩ (.slice a1' (digs BB m1').length k1')).setCell ⟨b8,5,none⟩ (.int .i64 e1')).setCell ⟨b8,6,none⟩ (.bool n2')).setCell ⟨b8,7,none⟩ (.slice a2' (digs BB m2').length k2')).setCell ⟨b8,8,none⟩ (.int .i64 e2')).setCell ⟨b8,9,none⟩ (.int .i64 n)=wb at*
   clear FA Qa R9 xa ya hBa hsz hbb hne r0 r1 r2 r3 r4 r5 r6 r7 r8 q0 q1 q2 q3 q4 q5 q6 q7 q8 q9 q10 q11 q12 q13 q14 q15 q16 q17 q18 q19 q20 q21 q22 q23 q24
   obtain⟨q0,q1,q2,q3,q4,q5,q6,q7,q8,q9,q10,q11,q12,q13,q14,q15,q16,q17,q18,q19,q20,q21,q22,q23,q24⟩:=Qb.open12
   go_upto_region 13 with fail
   have Qc:Blk (wb.setCell ⟨b8,10,none⟩ (.int .i64 ((i+1:Nat):Int))) b8 #[L64 b',.int .u8 f',.int .i64 0,.bool n1',.slice a1' (digs BB m1').length k1',.int .i64 e1',.bool n2',.slice a2' (digs BB m2').length k2',.int .i64 e2',.int .i64 n,.int .i64 ((i+1:Nat):Int),.int .i64 2]:=by
    obtain⟨h1,T,h2⟩:=Qb
    exact⟨by simpa[World.setCell]using h1,T,heap_setC h2 _⟩
   have FB:Fr (fun g=>g=b8) wb (wb.setCell ⟨b8,10,none⟩ (.int .i64 ((i+1:Nat):Int))):=(Fr.refl (fun g=>g=b8) wb).setCell (p:=⟨b8,10,none⟩) rfl _
   replace X:=X.keep FB (fun _ h=>h)
   replace Y:=Y.keep FB (fun _ h=>h)
   have hBc:Below w1.heap.size w1 (wb.setCell ⟨b8,10,none⟩ (.int .i64 ((i+1:Nat):Int))):=hBb.trans (FB.below hBb.size (fun k hk e=>by omega))
   change Code.wp _ _ _ _ (wb.setCell ⟨b8,10,none⟩ (.int .i64 ((i+1:Nat):Int)))
   generalize wb.setCell ⟨b8,10,none⟩ (.int .i64 ((i+1:Nat):Int))=wc at*
   clear FB Qb hBb q0 q1 q2 q3 q4 q5 q6 q7 q8 q9 q10 q11 q12 q13 q14 q15 q16 q17 q18 q19 q20 q21 q22 q23 q24
   obtain⟨q0,q1,q2,q3,q4,q5,q6,q7,q8,q9,q10,q11,q12,q13,q14,q15,q16,q17,q18,q19,q20,q21,q22,q23,q24⟩:=Qc.open12
   cases ok
   ·go_wp2_with fail
    exact⟨⟨i+1,by simp,by omega,b',f',n1',m1',e1',n2',m2',e2',a1',k1',a2',k2',n,Qc,.inr ⟨n,hmem.out,hP'.out⟩,(fun j hj=>by
     rcases Nat.lt_or_ge j i with h|h
     ·exact hF.out j h
     ·rw[show j=i by omega];exact⟨n,_,_,_,_,hmem.out,hP'.out⟩),hok.out rfl,X.mono (fun _ _ _=>trivial),Y.mono (fun _ _ _=>trivial),hBc⟩,by simp[intOf];omega⟩
   ·go_upto_region 16 with fail
    have Qd:Blk (wc.setCell ⟨b8,11,none⟩ (.int .i64 0)) b8 #[L64 b',.int .u8 f',.int .i64 0,.bool n1',.slice a1' (digs BB m1').length k1',.int .i64 e1',.bool n2',.slice a2' (digs BB m2').length k2',.int .i64 e2',.int .i64 n,.int .i64 ((i+1:Nat):Int),.int .i64 0]:=Qc.setAt 11 _
    have FC:=fr_set1 (Fr.refl (fun g=>g=b8) wc) 11 (.int .i64 0)
    replace X:=X.keep FC (fun _ h=>h)
    replace Y:=Y.keep FC (fun _ h=>h)
    have hBd:Below w1.heap.size w1 (wc.setCell ⟨b8,11,none⟩ (.int .i64 0)):=hBc.trans (FC.below hBc.size (fun k hk e=>by omega))
    change Code.wp _ _ _ _ (wc.setCell ⟨b8,11,none⟩ (.int .i64 0))
    generalize wc.setCell ⟨b8,11,none⟩ (.int .i64 0)=wd at*
    clear FC Qc hBc q0 q1 q2 q3 q4 q5 q6 q7 q8 q9 q10 q11 q12 q13 q14 q15 q16 q17 q18 q19 q20 q21 q22 q23 q24
    obtain⟨q0,q1,q2,q3,q4,q5,q6,q7,q8,q9,q10,q11,q12,q13,q14,q15,q16,q17,q18,q19,q20,q21,q22,q23,q24⟩:=Qd.open12
    have RR:Blk wd w.heap.size #[.int .u64 0,.int .u8 0,.int .i64 0,.bool false,.slice none 0 0,.int .i64 0,.bool false,.slice none 0 0,.int .i64 0,.int .i64 0,.int .i64 0,.int .i64 0]:=R1.below hBd
    have FE:=Fr.setB (w:=wd) (b:=w.heap.size) (L64 b') (.int .u8 f') (.int .i64 0) (.bool n1') (.slice a1' (digs BB m1').length k1') (.int .i64 e1') (.bool n2') (.slice a2' (digs BB m2').length k2') (.int .i64 e2') (.int .i64 n) (.int .i64 ((i:Int)+1)) (.int .i64 0)
    have RZ:=RR.setB (L64 b') (.int .u8 f') (.int .i64 0) (.bool n1') (.slice a1' (digs BB m1').length k1') (.int .i64 e1') (.bool n2') (.slice a2' (digs BB m2').length k2') (.int .i64 e2') (.int .i64 n) (.int .i64 ((i:Int)+1)) (.int .i64 0)
    have X':Rd (fun g=>g≠w.heap.size) wd (.slice a1' (digs BB m1').length k1') ((digs BB m1').map L64):=RdN.away0 (X.mono (fun _ _ _=>trivial)) RR zcells0
    have Y':Rd (fun g=>g≠w.heap.size) wd (.slice a2' (digs BB m2').length k2') ((digs BB m2').map L64):=RdN.away0 (Y.mono (fun _ _ _=>trivial)) RR zcells0
    have X2:=X'.keep FE (fun _ h=>h)
    have Y2:=Y'.keep FE (fun _ h=>h)
    have hBe:Below w.heap.size w wd:=hA1.trans (hBd.mono hA1.size)
    have hBf:=hBe.trans (FE.below hBe.size (fun k hk e=>by omega))
    have hob:=RR.open12
    obtain⟨s0,s1,s2,s3,s4,s5,s6,s7,s8,s9,s10,s11,s12,s13,s14,s15,s16,s17,s18,s19,s20,s21,s22,s23,s24⟩:=hob
    go_wp2_with fail
    change bodyPost _ _ _ _ _ (((((((((((((wd).setCell ⟨w.heap.size,0,none⟩ (L64 b')).setCell ⟨w.heap.size,1,none⟩ (.int .u8 f')).setCell ⟨w.heap.size,2,none⟩ (.int .i64 0)).setCell ⟨w.heap.size,3,none⟩ (.bool n1')).setCell ⟨w.heap.size,4,none⟩ (.slice a1' (digs BB m1').length k1')).setCell ⟨w.heap.size,5,none⟩ (.int .i64 e1')).setCell ⟨w.heap.size,6,none⟩ (.bool n2')).setCell ⟨w.heap.size,7,none⟩ (.slice a2' (digs BB m2').length k2')).setCell ⟨w.heap.size,8,none⟩ (.int .i64 e2')).setCell ⟨w.heap.size,9,none⟩ (.int .i64 n)).setCell ⟨w.heap.size,10,none⟩ (.int .i64 ((i:Int)+1))).setCell ⟨w.heap.size,11,none⟩ (.int .i64 0))
    generalize ((((((((((((wd).setCell ⟨w.heap.size,0,none⟩ (L64 b')).setCell ⟨w.heap.size,1,none⟩ (.int .u8 f')).setCell ⟨w.heap.size,2,none⟩ (.int .i64 0)).setCell ⟨w.heap.size,3,none⟩ (.bool n1')).setCell ⟨w.heap.size,4,none⟩ (.slice a1' (digs BB m1').length k1')).setCell ⟨w.heap.size,5,none⟩ (.int .i64 e1')).setCell ⟨w.heap.size,6,none⟩ (.bool n2')).setCell ⟨w.heap.size,7,none⟩ (.slice a2' (digs BB m2').length k2')).setCell ⟨w.heap.size,8,none⟩ (.int .i64 e2')).setCell ⟨w.heap.size,9,none⟩ (.int .i64 n)).setCell ⟨w.heap.size,10,none⟩ (.int .i64 ((i:Int)+1))).setCell ⟨w.heap.size,11,none⟩ (.int .i64 0)=wf at*
    obtain⟨z0,z1,z2,z3,z4,z5,z6,z7,z8,z9,z10,z11,-⟩:=RZ.open12
    refine bodyPost_ret (v:= .tuple #[.agg #[L64 b',.int .u8 f',.int .i64 0,.bool n1',.slice a1' (digs BB m1').length k1',.int .i64 e1',.bool n2',.slice a2' (digs BB m2').length k2',.int .i64 e2',.int .i64 n,.int .i64 ((i:Int)+1),.int .i64 0],.int .i64 0]) (by simp[results,Tryz.results56,go_sem,z0,z1,z2,z3,z4,z5,z6,z7,z8,z9,z10,z11]) rfl ⟨#[L64 b',.int .u8 f',.int .i64 0,.bool n1',.slice a1' (digs BB m1').length k1',.int .i64 e1',.bool n2',.slice a2' (digs BB m2').length k2',.int .i64 e2'],(n:Int),(((i:Int)+1):Int),(0:Int),by simp,(.inl ⟨rfl,i,n,by omega,by simp,hmem.out,hF.out,b',f',n1',m1',e1',n2',m2',e2',a1',k1',a2',k2',rfl,hP'.out,(fun h=>absurd h (by decide)),X2.mono (fun _ _ _=>trivial),Y2.mono (fun _ _ _=>trivial)⟩),hBf⟩
  ·have di:decide ((i:Int)<(l.length:Int))=false:=decide_eq_false (by omega)
   have di':decide (i<l.length)=false:=decide_eq_false hlt
   go_upto_region 16 with fail
   obtain⟨q0,q1,q2,q3,q4,q5,q6,q7,q8,q9,q10,q11,q12,q13,q14,q15,q16,q17,q18,q19,q20,q21,q22,q23,q24⟩:=Q.open12
   have RR:Blk wr w.heap.size #[.int .u64 0,.int .u8 0,.int .i64 0,.bool false,.slice none 0 0,.int .i64 0,.bool false,.slice none 0 0,.int .i64 0,.int .i64 0,.int .i64 0,.int .i64 0]:=R1.below hB
   have FE:=Fr.setB (w:=wr) (b:=w.heap.size) (L64 0) (.int .u8 f) (.int .i64 0) (.bool n1) (.slice a1 (digs BB m1).length k1) (.int .i64 e1) (.bool n2) (.slice a2 (digs BB m2).length k2) (.int .i64 e2) (.int .i64 nb) (.int .i64 (i:Int)) (.int .i64 2)
   have RZ:=RR.setB (L64 0) (.int .u8 f) (.int .i64 0) (.bool n1) (.slice a1 (digs BB m1).length k1) (.int .i64 e1) (.bool n2) (.slice a2 (digs BB m2).length k2) (.int .i64 e2) (.int .i64 nb) (.int .i64 (i:Int)) (.int .i64 2)
   have X':Rd (fun g=>g≠w.heap.size) wr (.slice a1 (digs BB m1).length k1) ((digs BB m1).map L64):=RdN.away0 x RR zcells0
   have Y':Rd (fun g=>g≠w.heap.size) wr (.slice a2 (digs BB m2).length k2) ((digs BB m2).map L64):=RdN.away0 y RR zcells0
   have X2:=X'.keep FE (fun _ h=>h)
   have Y2:=Y'.keep FE (fun _ h=>h)
   have hBe:Below w.heap.size w wr:=hA1.trans (hB.mono hA1.size)
   have hBf:=hBe.trans (FE.below hBe.size (fun k hk e=>by omega))
   have hob:=RR.open12
   obtain⟨s0,s1,s2,s3,s4,s5,s6,s7,s8,s9,s10,s11,s12,s13,s14,s15,s16,s17,s18,s19,s20,s21,s22,s23,s24⟩:=hob
   go_wp2_with fail
   change bodyPost _ _ _ _ _ (((((((((((((wr).setCell ⟨w.heap.size,0,none⟩ (L64 0)).setCell ⟨w.heap.size,1,none⟩ (.int .u8 f)).setCell ⟨w.heap.size,2,none⟩ (.int .i64 0)).setCell ⟨w.heap.size,3,none⟩ (.bool n1)).setCell ⟨w.heap.size,4,none⟩ (.slice a1 (digs BB m1).length k1)).setCell ⟨w.heap.size,5,none⟩ (.int .i64 e1)).setCell ⟨w.heap.size,6,none⟩ (.bool n2)).setCell ⟨w.heap.size,7,none⟩ (.slice a2 (digs BB m2).length k2)).setCell ⟨w.heap.size,8,none⟩ (.int .i64 e2)).setCell ⟨w.heap.size,9,none⟩ (.int .i64 nb)).setCell ⟨w.heap.size,10,none⟩ (.int .i64 (i:Int))).setCell ⟨w.heap.size,11,none⟩ (.int .i64 2))
   generalize ((((((((((((wr).setCell ⟨w.heap.size,0,none⟩ (L64 0)).setCell ⟨w.heap.size,1,none⟩ (.int .u8 f)).setCell ⟨w.heap.size,2,none⟩ (.int .i64 0)).setCell ⟨w.heap.size,3,none⟩ (.bool n1)).setCell ⟨w.heap.size,4,none⟩ (.slice a1 (digs BB m1).length k1)).setCell ⟨w.heap.size,5,none⟩ (.int .i64 e1)).setCell ⟨w.heap.size,6,none⟩ (.bool n2)).setCell ⟨w.heap.size,7,none⟩ (.slice a2 (digs BB m2).length k2)).setCell ⟨w.heap.size,8,none⟩ (.int .i64 e2)).setCell ⟨w.heap.size,9,none⟩ (.int .i64 nb)).setCell ⟨w.heap.size,10,none⟩ (.int .i64 (i:Int))).setCell ⟨w.heap.size,11,none⟩ (.int .i64 2)=wf at*
   obtain⟨z0,z1,z2,z3,z4,z5,z6,z7,z8,z9,z10,z11,-⟩:=RZ.open12
   refine bodyPost_ret (v:= .tuple #[.agg #[L64 0,.int .u8 f,.int .i64 0,.bool n1,.slice a1 (digs BB m1).length k1,.int .i64 e1,.bool n2,.slice a2 (digs BB m2).length k2,.int .i64 e2,.int .i64 nb,.int .i64 (i:Int),.int .i64 2],.int .i64 0]) (by simp[results,Tryz.results56,go_sem,z0,z1,z2,z3,z4,z5,z6,z7,z8,z9,z10,z11]) rfl ⟨#[L64 0,.int .u8 f,.int .i64 0,.bool n1,.slice a1 (digs BB m1).length k1,.int .i64 e1,.bool n2,.slice a2 (digs BB m2).length k2,.int .i64 e2],(nb:Int),((i:Int):Int),(2:Int),by simp,(.inr ⟨rfl,by omega,(fun j hj=>hF.out j (by omega)),hP.out.elim (fun h=>absurd h (by omega)) (fun⟨n,hn,hp⟩=>⟨n,by rw[show l.length=i by omega];exact hn,0,f,n1,m1,e1,n2,m2,e2,a1,k1,a2,k2,rfl,hp,(fun _=>rfl),X2.mono (fun _ _ _=>trivial),Y2.mono (fun _ _ _=>trivial)⟩)⟩),hBf⟩
theorem cgo_f {w:World}{v:Value}{l:List Nat}{P:Nat→Bool→Nat→Int→Dn→Dn→Prop}{p0 p1 p2:Value}(h:RdI w v l) (hl:l.length≤9) (hl1:1≤l.length)
 (HC:∀(w':World) (n:Nat),n∈l→Below w.heap.size w w'→Calls Tryz.prog 57 #[.int .i64 (n:Int),p0,p1,p2] w' (fun e w''=>∃c ok,e= .returned (.tuple #[.agg c,.bool ok])∧AnsR P w'' c ok n∧Below w'.heap.size w' w'')):
 Calls Tryz.prog 56 #[v,.pointer none,.func (.func 57) #[] #[p0,p1,p2]] w (fun e w'=>∃b f n1 m1 e1 n2 m2 e2 a1 k1 a2 k2 nb tr en,e= .returned (.tuple #[.agg #[L64 b,.int .u8 f,.int .i64 0,.bool n1,.slice a1 (digs BB m1).length k1,.int .i64 e1,.bool n2,.slice a2 (digs BB m2).length k2,.int .i64 e2,.int .i64 nb,.int .i64 tr,.int .i64 en],.int .i64 0])∧((en=0∧∃(i n:Nat),i<9∧tr=((i+1:Nat):Int)∧l[i]?=some n∧(∀j,j<i→Failed P l j)∧P n true b f ⟨n1,m1,e1⟩ ⟨n2,m2,e2⟩)∨(en=2∧tr=(l.length:Int)∧(∀j,j<l.length→Failed P l j)∧∃n,l[l.length-1]?=some n∧b=0∧P n false b f ⟨n1,m1,e1⟩ ⟨n2,m2,e2⟩))∧RdN w' (.slice a1 (digs BB m1).length k1) (digs BB m1)∧RdN w' (.slice a2 (digs BB m2).length k2) (digs BB m2)∧Below w.heap.size w w'):=by
 refine(cgo_n h hl hl1 HC).mono ?_
 rintro e w' ⟨c,nb,tr,en,rfl,⟨rfl,i,n,hi,ht,hn,hF,b,f,n1,m1,e1,n2,m2,e2,a1,k1,a2,k2,rfl,hP,hb,x,y⟩|⟨rfl,ht,hF,n,hn,b,f,n1,m1,e1,n2,m2,e2,a1,k1,a2,k2,rfl,hP,hb,x,y⟩,hB⟩
 ·exact⟨b,f,n1,m1,e1,n2,m2,e2,a1,k1,a2,k2,nb,tr,0,rfl,.inl ⟨rfl,i,n,hi,ht,hn,hF,hP⟩,x,y,hB⟩
 ·exact⟨b,f,n1,m1,e1,n2,m2,e2,a1,k1,a2,k2,nb,tr,2,rfl,.inr ⟨rfl,ht,hF,n,hn,hb rfl,hP⟩,x,y,hB⟩
end Go.Proofs.YtffaefjkpipjnaaGreatDoor
