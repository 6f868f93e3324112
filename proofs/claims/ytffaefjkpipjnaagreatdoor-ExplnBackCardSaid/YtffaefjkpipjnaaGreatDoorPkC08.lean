/- quo.takeOff and quo.putBack by their contracts. Conditions: the lists are short, the limbs are limbs, the place is one limb longer than the number. -/
import Derived.Test.YtffaefjkpipjnaaGreatDoorPkC07
import Derived.BigQuiet
import Derived.Deep.QuietTactic
import Derived.Shelf.Spec.TrailingZeros
namespace Go.Proofs.YtffaefjkpipjnaaGreatDoor
set_option maxRecDepth 100000
open Go.RowKit
theorem take_one {b x q cy:Nat}(hb:0<b) (hx:x<b) (hq:q<b) (hc:cy<b):
 x*q/b+(x*q%b+cy)/b<b∧(x*q%b+cy)%b+b*(x*q/b+(x*q%b+cy)/b)=x*q+cy:=by
 have h:=one_place (o:=0) hb hx hq hc hb
 have e1:=Nat.mod_add_div (x*q) b
 have e2:=Nat.mod_add_div (x*q%b+cy) b
 refine⟨h.1,?_⟩
 rw[Nat.mul_add];omega
structure PartOwn (w:World) (B N base:Nat) (X0 X:List Nat) (wr:World):Prop where
 len:X.length=X0.length
 dig:Dig BB X
 own:wr.ownsRow base 22 1 (.slice (some ⟨B,0,none⟩) N N) N (X.map L64)
 fr:Fr (fun g=>g=B) w wr
theorem PartOwn.set {w wr:World}{B N base:Nat}{X0 X:List Nat}(h:PartOwn w B N base X0 X wr) (p:Nat) {x:Nat}(hx:x<BB):PartOwn w B N base X0 (X.set p x) (wr.setCell ⟨B,p,none⟩ (L64 x)):=
 ⟨by rw[List.length_set];exact h.len,h.dig.set _ hx,by rw[List.map_set];exact(h.own.stored p _).1,h.fr.setCell (p:=⟨B,p,none⟩) rfl _⟩
theorem getD_set_ne {l:List Nat}{p j x:Nat}(h:p≠j):(l.set p x).getD j 0=l.getD j 0:=by
 rw[List.getD_eq_getElem?_getD,List.getElem?_set_ne h,←List.getD_eq_getElem?_getD]
structure TakeRel (w:World) (B N off base:Nat) (l X0:List Nat) (q k cy bw:Nat) (X:List Nat) (wr:World):Prop where
 o:PartOwn w B N base X0 X wr
 le:k≤l.length
 cyl:cy<BB
 bw1:bw≤1
 above:∀j,off+k≤j→X.getD j 0=X0.getD j 0
 sum:val BB (X.take (off+k))+BB^off*(val BB (l.take k)*q)=val BB (X0.take (off+k))+BB^(off+k)*(cy+bw)
theorem TakeRel.step {w wr:World}{B N off base:Nat}{l X0 X:List Nat}{q k cy bw:Nat}(h:TakeRel w B N off base l X0 q k cy bw X wr) (hl:Dig BB l) (hq:q<BB) (hk:k<l.length) (hp:off+k<X0.length):
 TakeRel w B N off base l X0 q (k+1) (mHi (l.getD k 0) q+sHi (mLo (l.getD k 0) q) cy) (dHi (X.getD (off+k) 0) (sLo (mLo (l.getD k 0) q) cy) bw)
  (X.set (off+k) (dLo (X.getD (off+k) 0) (sLo (mLo (l.getD k 0) q) cy) bw)) (wr.setCell ⟨B,off+k,none⟩ (L64 (dLo (X.getD (off+k) 0) (sLo (mLo (l.getD k 0) q) cy) bw))):=by
 obtain⟨t1,t2⟩:=take_one BB_pos (hl.getD BB_pos k) hq h.cyl
 have t3:=d_eq (h.o.dig.getD BB_pos (off+k)) (show sLo (mLo (l.getD k 0) q) cy<BB from Nat.mod_lt _ BB_pos) h.bw1
 refine⟨h.o.set _ (dLo_lt _ _ _),hk,t1,dHi_le _ _ _,fun j hj=>by rw[getD_set_ne (by omega)];exact h.above j (by omega),?_⟩
 have hs:=h.sum
 have ha:=h.above (off+k) (Nat.le_refl _)
 change sLo (mLo (l.getD k 0) q) cy+BB*(mHi (l.getD k 0) q+sHi (mLo (l.getD k 0) q) cy)=_ at t2
 generalize sLo (mLo (l.getD k 0) q) cy=lo at*
 generalize mHi (l.getD k 0) q+sHi (mLo (l.getD k 0) q) cy=cy' at*
 rw[ha]at t3⊢
 generalize dLo (X0.getD (off+k) 0) lo bw=dd at*
 generalize dHi (X0.getD (off+k) 0) lo bw=b' at*
 have e1:cy+bw+dd+l.getD k 0*q=X0.getD (off+k) 0+BB*(cy'+b'):=by rw[Nat.mul_add];omega
 have e2:=congrArg (BB^(off+k)*·) e1
 simp only[Nat.mul_add]at e2
 rw[show off+(k+1)=off+k+1 by omega,val_set_take BB X _ _ (by rw[h.o.len];exact hp),val_take_succ,val_take_succ,Nat.pow_succ,Nat.mul_assoc (BB^(off+k)),Nat.add_mul,Nat.mul_add (BB^off),Nat.mul_add BB]
 have e3:BB^off*(BB^k*l.getD k 0*q)=BB^(off+k)*(l.getD k 0*q):=by rw[Nat.pow_add];simp only[Nat.mul_assoc]
 rw[e3,Nat.mul_add (BB^(off+k))]
 rw[Nat.mul_add]at hs
 omega
def b2n (c:Bool):Nat:=if c then 1 else 0
def TakeEnd (w:World) (B N off base:Nat) (l X0:List Nat) (q:Nat) (c:Bool) (w':World):Prop:=
 ∃X,PartOwn w B N base X0 X w'∧(∀j,off+l.length+1≤j→X.getD j 0=X0.getD j 0)∧
  val BB (X.take (off+l.length+1))+BB^off*(val BB l*q)=val BB (X0.take (off+l.length+1))+BB^(off+l.length+1)*b2n c
theorem TakeRel.fin {w wr:World}{B N off base:Nat}{l X0 X:List Nat}{q cy bw:Nat}(h:TakeRel w B N off base l X0 q l.length cy bw X wr) (hp:off+l.length<X0.length):
 TakeEnd w B N off base l X0 q (decide (0<dHi (X.getD (off+l.length) 0) cy bw)) (wr.setCell ⟨B,off+l.length,none⟩ (L64 (dLo (X.getD (off+l.length) 0) cy bw))):=by
 have t3:=d_eq (h.o.dig.getD BB_pos (off+l.length)) h.cyl h.bw1
 have hb:=dHi_le (X.getD (off+l.length) 0) cy bw
 refine⟨_,h.o.set _ (dLo_lt _ _ _),fun j hj=>by rw[getD_set_ne (by omega)];exact h.above j (by omega),?_⟩
 have hs:=h.sum
 have ha:=h.above (off+l.length) (Nat.le_refl _)
 rw[ha]at t3 hb⊢
 have eb:b2n (decide (0<dHi (X0.getD (off+l.length) 0) cy bw))=dHi (X0.getD (off+l.length) 0) cy bw:=by
  rcases(by omega:dHi (X0.getD (off+l.length) 0) cy bw=0∨dHi (X0.getD (off+l.length) 0) cy bw=1)with h0|h0<;>rw[h0]<;>rfl
 rw[eb]
 generalize dLo (X0.getD (off+l.length) 0) cy bw=dd at*
 generalize dHi (X0.getD (off+l.length) 0) cy bw=b' at*
 have e2:=congrArg (BB^(off+l.length)*·) t3
 simp only[Nat.mul_add]at e2
 rw[val_set_take BB X _ _ (by rw[h.o.len];exact hp),val_take_succ BB X0,Nat.pow_succ,Nat.mul_assoc]
 rw[List.take_length,Nat.mul_add]at hs
 omega
set_option maxHeartbeats 800000 in
theorem take_any {w:World}{B N off C base:Nat}{v:Value}{l X0:List Nat}{q:Nat}(how:w.ownsRow base 22 1 (.slice (some ⟨B,0,none⟩) N N) N (X0.map L64)) (hl:Rd (fun g=>g≠B) w v (l.map L64)) (hlen:off+(l.length+1)≤N) (hC:l.length+1≤C) (hC2:C≤200000) (hX0:X0.length=N) (hd:Dig BB l) (hd0:Dig BB X0) (hq:q<BB):
 Calls Tryz.prog 138 #[.slice (some ⟨B,off,none⟩) (l.length+1) C,v,L64 q] w (fun e w'=>∃c,e= .returned (.bool c)∧TakeEnd w B N off base l X0 q c w'):=by
 obtain⟨a,c,rfl,h2,h3,h4,-⟩:=hl.view
 rw[List.length_map]at h2 hl⊢
 unfold maxLen at h3
 have HL:=Lib.hid hl;have HO:=Lib.hid how;clear hl how
 go_enter Tryz.func138,Tryz.ntmps138
 go_wp2
 go_loopw [7,8,17] (fun cy bw i wr=>∃(k cy' bw':Nat) (X:List Nat),i= .int .i64 k∧cy=L64 cy'∧bw=L64 bw'∧TakeRel w B N off base l X0 q k cy' bw' X wr) (fun _ _ i _=>l.length-(intOf i).toNat)
 case atStart=>
  exact⟨0,0,0,X0,rfl,rfl,rfl,⟨rfl,hd0,HO.out,.refl _ _⟩,Nat.zero_le _,BB_pos,Nat.zero_le _,fun _ _=>rfl,by simp⟩
 case round=>
  obtain⟨k,cy,bw,X,rfl,rfl,rfl,hR⟩:=hrel
  have HR:=Lib.hid hR
  have hXl:X.length=N:=by rw[hR.o.len,hX0]
  have hcy:=hR.cyl;have hbw:=hR.bw1;have hk:=hR.le
  have hF:=hR.o.fr
  by_cases hkn:k<l.length
  ·obtain⟨a',c',e1,-,-,-,hc⟩:=(HL.out.keep hF (fun g h1 h2=>h1 h2)).view
   injection e1 with e1 e2 e3;subst e1 e3
   obtain⟨g,of,rfl,hg,-,hcell⟩:=hc k (by simpa using hkn)
   clear hc e2
   rw[List.getElem?_map,List.getElem?_eq_getElem hkn,Option.map_some,Option.getD_some,←getD_lt hkn]at hcell
   have hca:=hR.o.own.cellAt (off+k) (by omega)
   rw[List.getElem?_map,List.getElem?_eq_getElem (by omega),Option.map_some,←getD_lt]at hca
   have hfr:=hR.o.own.frozenAt (off+k)
   have hx:=hd.getD BB_pos k
   have hone:=(take_one BB_pos hx hq hcy).1
   have HS:=Lib.hid (hR.step hd hq hkn (by omega))
   clear hR hF
   generalize l.getD k 0=x at*
   generalize X.getD (off+k) 0=o at*
   have h1:mHi x q+sHi (mLo x q) cy<18446744073709551616:=hone
   clear hone
   go_wp2_with (first
    |(go_at_call 142;((with_reducible refine(mul_named hx hq _).mono ?_));rintro e w1 ⟨rfl,rfl⟩)
    |simp only[run_add0]
    |simp only[run_sub _ _ _ hbw])
   go_round
   case rel=>exact⟨k+1,_,_,_,by go_num,rfl,rfl,HS.out⟩
   case measure=>simp[intOf];omega
  ·have hkl:k=l.length:=by omega
   subst hkl
   have hca:=hR.o.own.cellAt (off+l.length) (by omega)
   rw[List.getElem?_map,List.getElem?_eq_getElem (by omega),Option.map_some,←getD_lt]at hca
   have hfr:=hR.o.own.frozenAt (off+l.length)
   have HF:=Lib.hid (hR.fin (by omega))
   clear hR hF
   generalize X.getD (off+l.length) 0=o at*
   go_wp2_with (simp only[run_sub _ _ _ hbw])
   go_ret
   exact⟨_,rfl,HF.out⟩
def aLo (x y c:Nat):Nat:=(x+y+c)%BB
def aHi (x y c:Nat):Nat:=(x+y+c)/BB
theorem run_addn (x y c:Nat) (hc:c≤1) (w:World):
 (callFunc 130 #[.int .u64 x,.int .u64 y,.int .u64 c]).run Tryz.prog w= .ok (.value (.tuple #[.int .u64 (aLo x y c:Nat),.int .u64 (aHi x y c:Nat)])) w:=run_add x y c hc w
theorem run_add00 (x c:Nat) (hc:c≤1) (w:World):
 (callFunc 130 #[.int .u64 x,.int .u64 0,.int .u64 c]).run Tryz.prog w= .ok (.value (.tuple #[.int .u64 (aLo x 0 c:Nat),.int .u64 (aHi x 0 c:Nat)])) w:=run_add x 0 c hc w
theorem a_eq (x y c:Nat):aLo x y c+BB*aHi x y c=x+y+c:=Nat.mod_add_div _ _
theorem aHi_le {x y c:Nat}(hx:x<BB) (hy:y<BB) (hc:c≤1):aHi x y c≤1:=by
 unfold aHi;rw[Nat.div_le_iff_le_mul_add_pred BB_pos];omega
theorem aLo_lt (x y c:Nat):aLo x y c<BB:=Nat.mod_lt _ BB_pos
structure PutRel (w:World) (B N off base:Nat) (l X0:List Nat) (k cy:Nat) (X:List Nat) (wr:World):Prop where
 o:PartOwn w B N base X0 X wr
 le:k≤l.length
 cyl:cy≤1
 above:∀j,off+k≤j→X.getD j 0=X0.getD j 0
 sum:val BB (X.take (off+k))+BB^(off+k)*cy=val BB (X0.take (off+k))+BB^off*val BB (l.take k)
theorem PutRel.step {w wr:World}{B N off base:Nat}{l X0 X:List Nat}{k cy:Nat}(h:PutRel w B N off base l X0 k cy X wr) (hl:Dig BB l) (hk:k<l.length) (hp:off+k<X0.length):
 PutRel w B N off base l X0 (k+1) (aHi (X.getD (off+k) 0) (l.getD k 0) cy) (X.set (off+k) (aLo (X.getD (off+k) 0) (l.getD k 0) cy)) (wr.setCell ⟨B,off+k,none⟩ (L64 (aLo (X.getD (off+k) 0) (l.getD k 0) cy))):=by
 have t:=a_eq (X.getD (off+k) 0) (l.getD k 0) cy
 refine⟨h.o.set _ (aLo_lt _ _ _),hk,aHi_le (h.o.dig.getD BB_pos _) (hl.getD BB_pos k) h.cyl,fun j hj=>by rw[getD_set_ne (by omega)];exact h.above j (by omega),?_⟩
 have hs:=h.sum
 have ha:=h.above (off+k) (Nat.le_refl _)
 rw[ha]at t⊢
 generalize aLo (X0.getD (off+k) 0) (l.getD k 0) cy=dd at*
 generalize aHi (X0.getD (off+k) 0) (l.getD k 0) cy=c' at*
 have e2:=congrArg (BB^(off+k)*·) t
 simp only[Nat.mul_add]at e2
 rw[show off+(k+1)=off+k+1 by omega,val_set_take BB X _ _ (by rw[h.o.len];exact hp),val_take_succ,val_take_succ,Nat.pow_succ,Nat.mul_assoc (BB^(off+k)),Nat.mul_add (BB^off)]
 have e3:BB^off*(BB^k*l.getD k 0)=BB^(off+k)*l.getD k 0:=by rw[Nat.pow_add];simp only[Nat.mul_assoc]
 rw[e3]
 omega
def PutEnd (w:World) (B N off base:Nat) (l X0:List Nat) (c:Bool) (w':World):Prop:=
 ∃X,PartOwn w B N base X0 X w'∧(∀j,off+l.length+1≤j→X.getD j 0=X0.getD j 0)∧
  val BB (X.take (off+l.length+1))+BB^(off+l.length+1)*b2n c=val BB (X0.take (off+l.length+1))+BB^off*val BB l
theorem PutRel.fin {w wr:World}{B N off base:Nat}{l X0 X:List Nat}{cy:Nat}(h:PutRel w B N off base l X0 l.length cy X wr) (hp:off+l.length<X0.length):
 PutEnd w B N off base l X0 (decide (0<aHi (X.getD (off+l.length) 0) 0 cy)) (wr.setCell ⟨B,off+l.length,none⟩ (L64 (aLo (X.getD (off+l.length) 0) 0 cy))):=by
 have t:=a_eq (X.getD (off+l.length) 0) 0 cy
 have hb:=aHi_le (h.o.dig.getD BB_pos (off+l.length)) BB_pos h.cyl
 refine⟨_,h.o.set _ (aLo_lt _ _ _),fun j hj=>by rw[getD_set_ne (by omega)];exact h.above j (by omega),?_⟩
 have hs:=h.sum
 have ha:=h.above (off+l.length) (Nat.le_refl _)
 rw[ha]at t hb⊢
 have eb:b2n (decide (0<aHi (X0.getD (off+l.length) 0) 0 cy))=aHi (X0.getD (off+l.length) 0) 0 cy:=by
  rcases(by omega:aHi (X0.getD (off+l.length) 0) 0 cy=0∨aHi (X0.getD (off+l.length) 0) 0 cy=1)with h0|h0<;>rw[h0]<;>rfl
 rw[eb]
 generalize aLo (X0.getD (off+l.length) 0) 0 cy=dd at*
 generalize aHi (X0.getD (off+l.length) 0) 0 cy=c' at*
 have e2:=congrArg (BB^(off+l.length)*·) t
 simp only[Nat.mul_add]at e2
 rw[val_set_take BB X _ _ (by rw[h.o.len];exact hp),val_take_succ BB X0,Nat.pow_succ,Nat.mul_assoc]
 rw[List.take_length]at hs
 omega
set_option maxHeartbeats 800000 in
theorem put_any {w:World}{B N off C base:Nat}{v:Value}{l X0:List Nat}(how:w.ownsRow base 22 1 (.slice (some ⟨B,0,none⟩) N N) N (X0.map L64)) (hl:Rd (fun g=>g≠B) w v (l.map L64)) (hlen:off+(l.length+1)≤N) (hC:l.length+1≤C) (hC2:C≤200000) (hX0:X0.length=N) (hd:Dig BB l) (hd0:Dig BB X0):
 Calls Tryz.prog 139 #[.slice (some ⟨B,off,none⟩) (l.length+1) C,v] w (fun e w'=>∃c,e= .returned (.bool c)∧PutEnd w B N off base l X0 c w'):=by
 obtain⟨a,c,rfl,h2,h3,h4,-⟩:=hl.view
 rw[List.length_map]at h2 hl⊢
 unfold maxLen at h3
 have HL:=Lib.hid hl;have HO:=Lib.hid how;clear hl how
 go_enter Tryz.func139,Tryz.ntmps139
 go_wp2
 go_loopw [5,11] (fun cy i wr=>∃(k cy':Nat) (X:List Nat),i= .int .i64 k∧cy=L64 cy'∧PutRel w B N off base l X0 k cy' X wr) (fun _ i _=>l.length-(intOf i).toNat)
 case atStart=>
  exact⟨0,0,X0,rfl,rfl,⟨rfl,hd0,HO.out,.refl _ _⟩,Nat.zero_le _,Nat.zero_le _,fun _ _=>rfl,by simp⟩
 case round=>
  obtain⟨k,cy,X,rfl,rfl,hR⟩:=hrel
  have HR:=Lib.hid hR
  have hXl:X.length=N:=by rw[hR.o.len,hX0]
  have hcy:=hR.cyl;have hk:=hR.le
  have hF:=hR.o.fr
  by_cases hkn:k<l.length
  ·obtain⟨a',c',e1,-,-,-,hc⟩:=(HL.out.keep hF (fun g h1 h2=>h1 h2)).view
   injection e1 with e1 e2 e3;subst e1 e3
   obtain⟨g,of,rfl,hg,-,hcell⟩:=hc k (by simpa using hkn)
   clear hc e2
   rw[List.getElem?_map,List.getElem?_eq_getElem hkn,Option.map_some,Option.getD_some,←getD_lt hkn]at hcell
   have hca:=hR.o.own.cellAt (off+k) (by omega)
   rw[List.getElem?_map,List.getElem?_eq_getElem (by omega),Option.map_some,←getD_lt]at hca
   have hfr:=hR.o.own.frozenAt (off+k)
   have HS:=Lib.hid (hR.step hd hkn (by omega))
   clear hR hF
   generalize l.getD k 0=x at*
   generalize X.getD (off+k) 0=o at*
   go_wp2_with (simp only[run_addn _ _ _ hcy])
   go_round
   case rel=>exact⟨k+1,_,_,by go_num,rfl,HS.out⟩
   case measure=>simp[intOf];omega
  ·have hkl:k=l.length:=by omega
   subst hkl
   have hca:=hR.o.own.cellAt (off+l.length) (by omega)
   rw[List.getElem?_map,List.getElem?_eq_getElem (by omega),Option.map_some,←getD_lt]at hca
   have hfr:=hR.o.own.frozenAt (off+l.length)
   have HF:=Lib.hid (hR.fin (by omega))
   clear hR hF
   generalize X.getD (off+l.length) 0=o at*
   go_wp2_with (simp only[run_add00 _ _ hcy])
   go_ret
   exact⟨_,rfl,HF.out⟩
end Go.Proofs.YtffaefjkpipjnaaGreatDoor
namespace Go.Proofs.YtffaefjkpipjnaaGreatDoor
set_option maxRecDepth 100000
open Go.RowKit
structure GuRel (T lw top next q r:Nat):Prop where
 eq:q*top+r=T
 up:T*BB+lw<(q+1)*(top*BB+next)
 ql:q<BB
 rl:r<BB
theorem GuRel.down {T lw top next q r:Nat}(h:GuRel T lw top next q r) (hn:BB*r+lw<q*next):∃p,p<q∧(q:Int)-1=(p:Int)∧p*top+(r+top)=T∧T*BB+lw<(p+1)*(top*BB+next)∧p<BB:=by
 have hU:=half_dn h.eq hn
 have hq0:q≠0:=fun h0=>by rw[h0,Nat.zero_mul]at hn;exact Nat.not_lt_zero _ hn
 obtain⟨p,rfl⟩:∃p,q=p+1:=⟨q-1,by omega⟩
 have e:=h.eq
 rw[Nat.add_mul]at e
 exact⟨p,by omega,by omega,by omega,hU,by have:=h.ql;omega⟩
theorem mul_split (q n:Nat):mLo q n+BB*mHi q n=q*n:=Nat.mod_add_div _ _
theorem above_hi {q n r lw:Nat}(hlw:lw<BB) (h:r<mHi q n):BB*r+lw<q*n:=by
 rw[←mul_split q n]
 have:=Nat.mul_le_mul_left BB (show r+1≤mHi q n from h)
 rw[Nat.mul_add]at this;omega
theorem above_lo {q n r lw:Nat}(h:r=mHi q n) (h2:lw<mLo q n):BB*r+lw<q*n:=by
 rw[←mul_split q n,h];omega
def Guessed (P:List Nat) (top next g:Nat):Prop:=
 g<BB∧((P.getD (P.length-1) 0*BB+P.getD (P.length-2) 0)*BB+P.getD (P.length-3) 0<(g+1)*(top*BB+next)∨g+1=BB)
set_option maxHeartbeats 2000000 in
theorem guess_any {w:World}{v:Value}{P:List Nat}{top next:Nat}(hP:RdN w v P) (hd:Dig BB P) (hlen:3≤P.length) (hl2:P.length≤100000) (ht:0<top) (htb:top<BB) (hnb:next<BB) (htop:P.getD (P.length-1) 0≤top):
 Calls Tryz.prog 137 #[v,L64 top,L64 next] w (fun e w'=>∃g,e= .returned (L64 g)∧Guessed P top next g∧Below w.heap.size w w'):=by
 obtain⟨a,c,rfl,h2,h3,h4,hc⟩:=hP.view
 unfold Guessed
 obtain⟨n,hn⟩:∃n,P.length=n+3:=⟨P.length-3,by omega⟩
 have HC:=Lib.hid hc;clear hc
 obtain⟨g,of,rfl,hg,c1⟩:=HC.out (n+2) (by omega)
 obtain⟨g',of',e,hg',c2⟩:=HC.out (n+1) (by omega)
 obtain⟨rfl,rfl⟩:g=g'∧of=of':=by simpa using e
 obtain⟨g',of',e,hg',c3⟩:=HC.out n (by omega)
 obtain⟨rfl,rfl⟩:g=g'∧of=of':=by simpa using e
 rw[←List.getD_eq_getElem?_getD]at c1 c2 c3
 have b1:=hd.getD BB_pos (n+2);have b2:=hd.getD BB_pos (n+1);have b3:=hd.getD BB_pos n
 have hx1:P.getD (P.length-1) 0=P.getD (n+2) 0:=by rw[hn];rfl
 have hx2:P.getD (P.length-2) 0=P.getD (n+1) 0:=by rw[hn];rfl
 have hx3:P.getD (P.length-3) 0=P.getD n 0:=by rw[hn];rfl
 rw[hx1,hx2,hx3]
 rw[hx1]at htop
 clear hx1 hx2 hx3 HC hP hd e hg' hlen
 rw[hn]at hl2 h2⊢
 generalize P.getD (n+2) 0=x1 at*
 generalize P.getD (n+1) 0=x2 at*
 generalize P.getD n 0=x3 at*
 clear hn P
 by_cases hbig:x1=top
 ·subst hbig
  go_enter Tryz.func137,Tryz.ntmps137
  go_wp2
  go_ret
  exact⟨18446744073709551615,rfl,⟨by decide,.inr rfl⟩,Below.refl _ _⟩
 ·have hlt:x1<top:=by omega
  have htop64:top<18446744073709551616:=htb
  have HD:=Lib.hid (fun w=>div_any (w:=w) (l:=x2) hlt htop64 b2)
  have hq:=quo_small hlt b2
  have e0:=Nat.mod_add_div (x1*BB+x2) top
  have hst:=half_start (d0:=next) b3 ht (u:=x1*BB+x2)
  have hrl:=Nat.mod_lt (x1*BB+x2) ht
  rw[Nat.mul_comm top]at e0
  have HS:=Lib.hid (show GuRel (x1*BB+x2) x3 top next ((x1*BB+x2)/top) ((x1*BB+x2)%top)from⟨by omega,hst,hq,by omega⟩)
  generalize (x1*BB+x2)/top=q at*
  generalize (x1*BB+x2)%top=r at*
  generalize x1*BB+x2=T at*
  clear hst e0 hq hrl
  go_enter Tryz.func137,Tryz.ntmps137
  go_wp2_with (go_quiet ((go_at_call 134;refine Calls.quiet_of (HD.out _))))
  go_loopw [8,9] (fun q r wr=>∃(q' r' d:Nat),q=L64 q'∧r=L64 r'∧GuRel T x3 top next q' r'∧wr=w.drewN d) (fun q _ _=>(intOf q).toNat)
  case atStart=>exact⟨q,r,nq,rfl,rfl,HS.out,rfl⟩
  case round=>
   clear HS HD
   obtain⟨q,r,d,rfl,rfl,hR,rfl⟩:=hrel
   have HR:=Lib.hid hR
   have hql:=hR.ql;have hrl:=hR.rl
   clear hR
   have c3':(w.drewN d).cell? ⟨g,of+n,none⟩=some (L64 x3):=c3
   have HB:=Lib.hid (below_drewN (Below.refl w.heap.size w) d)
   have hsp:=Lib.hid (mul_split q next)
   by_cases hstop:mHi q next<r∨(mHi q next=r∧mLo q next≤x3)
   ·have HU:=Lib.hid HR.out.up
    have htests:(decide (mHi q next<r)=true)∨(decide (mHi q next<r)=false∧(((mHi q next:Nat):Int)==(r:Int))=true∧decide (mLo q next≤x3)=true):=by
     rcases hstop with h|⟨h,h2⟩
     ·exact .inl (decide_eq_true (by omega))
     ·exact .inr ⟨decide_eq_false (by omega),beq_iff_eq.2 (by omega),decide_eq_true (by omega)⟩
    clear hstop
    rcases htests with t1|⟨t1,t2,t3⟩
    all_goals
     go_wp2_with (go_at_call 142;((with_reducible refine(mul_named hql hnb _).mono ?_));rintro e w1 ⟨rfl,rfl⟩)
     go_ret
     exact⟨q,rfl,⟨HR.out.ql,.inl HU.out⟩,HB.out⟩
   ·have habove:BB*r+x3<q*next:=by
     rcases Nat.lt_trichotomy (mHi q next) r with h|h|h
     ·exact absurd (.inl h) hstop
     ·exact above_lo h.symm (Nat.lt_of_not_le fun h2=>hstop (.inr ⟨h,h2⟩))
     ·exact above_hi b3 h
    obtain⟨p,hpq,hpI,he,hU,hpB⟩:=HR.out.down habove
    have HE:=Lib.hid (And.intro he hU);have HPB:=Lib.hid hpB;have HPQ:=Lib.hid hpq
    have hW:IntKind.u64.wrap ((q:Int)-1)=(p:Int):=by
     have:p<18446744073709551616:=hpB
     rw[hpI,IntKind.wrap_u64];omega
    clear hpI
    have htests:(decide (mHi q next<r)=false∧(((mHi q next:Nat):Int)==(r:Int))=false)∨(decide (mHi q next<r)=false∧(((mHi q next:Nat):Int)==(r:Int))=true∧decide (mLo q next≤x3)=false):=by
     by_cases h:mHi q next=r
     ·exact .inr ⟨decide_eq_false (by omega),beq_iff_eq.2 (by omega),decide_eq_false (fun h2=>hstop (.inr ⟨h,by omega⟩))⟩
     ·exact .inl ⟨decide_eq_false (fun h2=>hstop (.inl (by omega))),beq_eq_false_iff_ne.2 (by omega)⟩
    clear hstop habove he hU hpB hpq
    by_cases hov:BB≤r+top
    ·have dov:decide (0<sHi r top)=true:=decide_eq_true (Nat.div_pos hov BB_pos)
     clear hov
     rcases htests with⟨t1,t2⟩|⟨t1,t2,t3⟩
     all_goals
      go_wp2_with (first
       |(go_at_call 142;((with_reducible refine(mul_named hql hnb _).mono ?_));rintro e w1 ⟨rfl,rfl⟩)
       |simp only[run_add0])
      go_ret
      exact⟨p,rfl,⟨HPB.out,.inl HE.out.2⟩,HB.out⟩
    ·have hs1:sHi r top=0:=Nat.div_eq_of_lt (by omega)
     have hs2:sLo r top=r+top:=Nat.mod_eq_of_lt (by omega)
     have HN:=Lib.hid (⟨HE.out.1,HE.out.2,HPB.out,by omega⟩:GuRel T x3 top next p (r+top))
     rw[←hs2]at HN
     have HS2:=Lib.hid hs2
     clear hov hs2
     rcases htests with⟨t1,t2⟩|⟨t1,t2,t3⟩
     all_goals
      go_wp2_with (first
       |(go_at_call 142;((with_reducible refine(mul_named hql hnb _).mono ?_));rintro e w1 ⟨rfl,rfl⟩)
       |simp only[run_add0])
      go_round
      case rel=>exact⟨p,sLo r top,d,rfl,rfl,HN.out,rfl⟩
      case measure=>simp[intOf];exact HPQ.out
end Go.Proofs.YtffaefjkpipjnaaGreatDoor
namespace Go.Proofs.YtffaefjkpipjnaaGreatDoor
set_option maxRecDepth 100000
open Go.RowKit
structure Tab (w:World):Prop where
 at_:TabAt 0 Lib.deBruijn64tab w
 lt:0<w.heap.size
theorem Tab.below {w w':World}(h:Tab w) (hb:Below w.heap.size w w'):Tab w':=
 ⟨fun j hj=>(hb.cell (p:=⟨0,j,none⟩) h.lt).trans (h.at_ j hj),Nat.lt_of_lt_of_le h.lt hb.size⟩
theorem Tab.fr {w w':World}{S:Nat→Prop}(h:Tab w) (hf:Fr S w w') (hs:¬S 0):Tab w':=
 ⟨fun j hj=>hf.at_cell (h.at_ j hj) hs,Nat.lt_of_lt_of_le h.lt hf.size⟩
theorem tz_core {w:World}{x k idx:Nat}(hx0:((x:Int)==0)=false)
 (key:IntKind.u64.wrap (bits BinOp.and IntKind.u64 (x:Int) (IntKind.u64.wrap (-(x:Int)))*285870213051353865)/288230376151711744=(idx:Int))
 (hi:idx<64) (hk:k<64) (hcell:w.cell? ⟨0,idx,none⟩=some (.int .u8 k)):
 Calls Tryz.prog 132 #[.int .u64 x] w fun e w'=>e= .returned (.int .i64 k)∧w'=w:=by
 go_enter Tryz.func132,Tryz.ntmps132
 go_wp2_with (simp only[key])
 go_ret
 exact⟨rfl,rfl⟩
theorem tz_any {w:World}{x:Nat}(hx:x<18446744073709551616) (hx0:x≠0) (hT:Tab w):
 Calls Tryz.prog 132 #[.int .u64 x] w fun e w'=>e= .returned (.int .i64 (Lib.ctz 64 x))∧w'=w:=by
 obtain⟨hlow,hk⟩:=Lib.lowest_bit 64 x hx0 hx
 obtain⟨hi,htab⟩:=Lib.deBruijn64_at _ hk
 have hcell:=hT.at_ _ hi
 rw[htab]at hcell
 exact tz_core (by simp;omega) (tz64_key x _ hx hx0 hlow) hi hk hcell
theorem ctz_spec {x:Nat}(h0:x≠0) (h:x<18446744073709551616):∃m,x=2^Lib.ctz 64 x*(2*m+1)∧Lib.ctz 64 x<64:=by
 obtain⟨m,h1,h2⟩:=Lib.ctzFrom_spec 64 x (by omega) h
 have e:Lib.ctz 64 x=Lib.ctzFrom 64 x:=by simp[Lib.ctz,h0]
 rw[e];exact⟨m,h1,h2⟩
def IsLow (A k:Nat):Prop:=(A=0∧k=0)∨∃m,A=2^k*(2*m+1)
theorem low_step {l:List Nat}{k x:Nat}(hz:val BB (l.take k)=0) (hk:k<l.length) (hx:l.getD k 0=x) (h0:x≠0) (h:x<18446744073709551616):IsLow (val BB l) (64*k+Lib.ctz 64 x):=by
 obtain⟨m,h1,h2⟩:=ctz_spec h0 h
 right
 have e:=val_take_drop BB l k (by omega)
 rw[hz,Nat.zero_add,val_drop_succ BB l k hk,hx]at e
 obtain⟨j,hj⟩:∃j,64=Lib.ctz 64 x+1+j:=⟨63-Lib.ctz 64 x,by omega⟩
 generalize Lib.ctz 64 x=c at*
 have eb:BB=2^c*2*2^j:=by rw[BB_pow,hj,Nat.pow_add,Nat.pow_succ]
 have eb2:BB^k=2^(64*k):=by rw[BB_pow,←Nat.pow_mul]
 generalize val BB (l.drop (k+1))=V at e
 refine⟨m+2^j*V,?_⟩
 rw[e,eb2,Nat.pow_add,Nat.mul_assoc]
 congr 1
 rw[h1,eb]
 simp only[Nat.mul_add,Nat.mul_one]
 have e2:2^c*2*2^j*V=2^c*(2*(2^j*V)):=by simp only[Nat.mul_assoc]
 rw[e2];omega
set_option maxHeartbeats 400000 in
theorem low_any {w:World}{v:Value}{l:List Nat}(hl:RdN w v l) (hd:Dig BB l) (h1:l.length≤100000) (hT:Tab w):
 Calls Tryz.prog 115 #[v] w (fun e w'=>∃k,e= .returned (.int .i64 (k:Nat))∧IsLow (val BB l) k∧w'=w∧k≤6400000):=by
 obtain⟨a,c,rfl,h2,h3,h4,hc⟩:=hl.view
 have HC:=Lib.hid hc;clear hc hl
 have HT:=Lib.hid hT;clear hT
 go_enter Tryz.func115,Tryz.ntmps115
 go_wp2
 go_loop [7] (fun i=>∃(k:Nat),i= .int .i64 k∧k≤l.length∧val BB (l.take k)=0) (fun i=>l.length-(intOf i).toNat)
 case atStart=>exact⟨0,rfl,Nat.zero_le _,by simp⟩
 case round=>
  obtain⟨k,rfl,hk,hz⟩:=hrel
  have HZ:=Lib.hid hz;clear hz
  by_cases hkn:k<l.length
  ·obtain⟨g,of,rfl,hg,hcell⟩:=HC.out k hkn
   rw[←List.getD_eq_getElem?_getD]at hcell
   have hx:=hd.getD BB_pos k
   have HX:=Lib.hid (show l.getD k 0=l.getD k 0 from rfl)
   generalize hxx:l.getD k 0=x at hcell hx
   have HXX:=Lib.hid hxx
   clear HX hxx
   by_cases hx0:x=0
   ·subst hx0
    go_wp2
    go_round
    case rel=>exact⟨k+1,by go_num,hkn,by rw[val_take_succ,HZ.out,HXX.out];simp⟩
    case measure=>simp[intOf];omega
   ·have hx64:x<18446744073709551616:=hx
    have dx:((x:Int) !=0)=true:=by simp;omega
    have hL:=low_step HZ.out hkn HXX.out hx0 hx64
    have HTZ:=Lib.hid (tz_any hx64 hx0 HT.out)
    obtain⟨m,-,hc64⟩:=ctz_spec hx0 hx64
    generalize Lib.ctz 64 x=c at*
    have HL:=Lib.hid hL;clear hL
    go_wp2_with (go_at_call 132;(with_reducible refine HTZ.out.mono ?_);rintro e w1 ⟨rfl,rfl⟩)
    go_ret
    exact⟨64*k+c,by simp,HL.out,rfl,by omega⟩
  ·have hkl:k=l.length:=by omega
   have hz:=HZ.out
   rw[hkl,List.take_length]at hz
   have HV:=Lib.hid hz
   clear hz
   go_wp2
   go_ret
   exact⟨0,rfl,.inl ⟨HV.out,rfl⟩,rfl,by omega⟩
end Go.Proofs.YtffaefjkpipjnaaGreatDoor
