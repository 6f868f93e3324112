/- What expln.run's tries tell. Conditions: none. -/
import Derived.Test.YtffaefjkpipjnaaGreatDoorPkC22
import Derived.Test.YtffaefjkpipjnaaGreatDoorPkC23
import Derived.Test.YtffaefjkpipjnaaGreatDoorPkC16
namespace Go.Proofs.YtffaefjkpipjnaaGreatDoor
set_option linter.unusedVariables false
set_option linter.unusedSimpArgs false
set_option maxRecDepth 100000
open Go.RowKit Go.ChangeShapes Go.WideShapes
theorem Blk.open1 {w:World}{b:Nat}{x0:Value}(h:Blk w b #[x0]):w.cell? ⟨b,0,none⟩=some x0∧w.frozen? ⟨b,0,none⟩=false∧b<w.heap.size:=by
 obtain⟨h1,T,h2⟩:=h
 exact⟨cell_at h2 rfl,free_at h2,h1⟩
theorem Blk.open4 {w:World}{b:Nat}{x0 x1 x2 x3:Value}(h:Blk w b #[x0,x1,x2,x3]):w.cell? ⟨b,0,none⟩=some x0∧w.cell? ⟨b,1,none⟩=some x1∧w.cell? ⟨b,2,none⟩=some x2∧w.cell? ⟨b,3,none⟩=some x3∧w.frozen? ⟨b,0,none⟩=false∧w.frozen? ⟨b,1,none⟩=false∧w.frozen? ⟨b,2,none⟩=false∧w.frozen? ⟨b,3,none⟩=false∧b<w.heap.size:=by
 obtain⟨h1,T,h2⟩:=h
 exact⟨cell_at h2 rfl,cell_at h2 rfl,cell_at h2 rfl,cell_at h2 rfl,free_at h2,free_at h2,free_at h2,free_at h2,h1⟩
theorem Blk.set9 {w:World}{b:Nat}{x0 x1 x2 x3 x4 x5 x6 x7 x8:Value}(h:Blk w b #[x0,x1,x2,x3,x4,x5,x6,x7,x8]) (y0 y1 y2 y3 y4 y5 y6 y7 y8:Value):Blk ((((((((((w).setCell ⟨b,0,none⟩ y0).setCell ⟨b,1,none⟩ y1).setCell ⟨b,2,none⟩ y2).setCell ⟨b,3,none⟩ y3).setCell ⟨b,4,none⟩ y4).setCell ⟨b,5,none⟩ y5).setCell ⟨b,6,none⟩ y6).setCell ⟨b,7,none⟩ y7).setCell ⟨b,8,none⟩ y8) b #[y0,y1,y2,y3,y4,y5,y6,y7,y8]:=by
 have h0:Blk (w.setCell ⟨b,0,none⟩ y0) b #[y0,x1,x2,x3,x4,x5,x6,x7,x8]:=h.setAt 0 y0
 generalize w.setCell ⟨b,0,none⟩ y0=w1 at h0⊢
 have h1:Blk (w1.setCell ⟨b,1,none⟩ y1) b #[y0,y1,x2,x3,x4,x5,x6,x7,x8]:=h0.setAt 1 y1
 generalize w1.setCell ⟨b,1,none⟩ y1=w2 at h1⊢
 have h2:Blk (w2.setCell ⟨b,2,none⟩ y2) b #[y0,y1,y2,x3,x4,x5,x6,x7,x8]:=h1.setAt 2 y2
 generalize w2.setCell ⟨b,2,none⟩ y2=w3 at h2⊢
 have h3:Blk (w3.setCell ⟨b,3,none⟩ y3) b #[y0,y1,y2,y3,x4,x5,x6,x7,x8]:=h2.setAt 3 y3
 generalize w3.setCell ⟨b,3,none⟩ y3=w4 at h3⊢
 have h4:Blk (w4.setCell ⟨b,4,none⟩ y4) b #[y0,y1,y2,y3,y4,x5,x6,x7,x8]:=h3.setAt 4 y4
 generalize w4.setCell ⟨b,4,none⟩ y4=w5 at h4⊢
 have h5:Blk (w5.setCell ⟨b,5,none⟩ y5) b #[y0,y1,y2,y3,y4,y5,x6,x7,x8]:=h4.setAt 5 y5
 generalize w5.setCell ⟨b,5,none⟩ y5=w6 at h5⊢
 have h6:Blk (w6.setCell ⟨b,6,none⟩ y6) b #[y0,y1,y2,y3,y4,y5,y6,x7,x8]:=h5.setAt 6 y6
 generalize w6.setCell ⟨b,6,none⟩ y6=w7 at h6⊢
 have h7:Blk (w7.setCell ⟨b,7,none⟩ y7) b #[y0,y1,y2,y3,y4,y5,y6,y7,x8]:=h6.setAt 7 y7
 generalize w7.setCell ⟨b,7,none⟩ y7=w8 at h7⊢
 have h8:Blk (w8.setCell ⟨b,8,none⟩ y8) b #[y0,y1,y2,y3,y4,y5,y6,y7,y8]:=h7.setAt 8 y8
 generalize w8.setCell ⟨b,8,none⟩ y8=w9 at h8⊢
 exact h8
theorem Fr.set9 {w:World}{b:Nat}(y0 y1 y2 y3 y4 y5 y6 y7 y8:Value):Fr (fun g=>g=b) w ((((((((((w).setCell ⟨b,0,none⟩ y0).setCell ⟨b,1,none⟩ y1).setCell ⟨b,2,none⟩ y2).setCell ⟨b,3,none⟩ y3).setCell ⟨b,4,none⟩ y4).setCell ⟨b,5,none⟩ y5).setCell ⟨b,6,none⟩ y6).setCell ⟨b,7,none⟩ y7).setCell ⟨b,8,none⟩ y8):=by
 have h0:Fr (fun g=>g=b) w (w.setCell ⟨b,0,none⟩ y0):=fr_set1 (Fr.refl _ w) 0 y0
 generalize w.setCell ⟨b,0,none⟩ y0=w1 at h0⊢
 have h1:Fr (fun g=>g=b) w (w1.setCell ⟨b,1,none⟩ y1):=fr_set1 h0 1 y1
 generalize w1.setCell ⟨b,1,none⟩ y1=w2 at h1⊢
 have h2:Fr (fun g=>g=b) w (w2.setCell ⟨b,2,none⟩ y2):=fr_set1 h1 2 y2
 generalize w2.setCell ⟨b,2,none⟩ y2=w3 at h2⊢
 have h3:Fr (fun g=>g=b) w (w3.setCell ⟨b,3,none⟩ y3):=fr_set1 h2 3 y3
 generalize w3.setCell ⟨b,3,none⟩ y3=w4 at h3⊢
 have h4:Fr (fun g=>g=b) w (w4.setCell ⟨b,4,none⟩ y4):=fr_set1 h3 4 y4
 generalize w4.setCell ⟨b,4,none⟩ y4=w5 at h4⊢
 have h5:Fr (fun g=>g=b) w (w5.setCell ⟨b,5,none⟩ y5):=fr_set1 h4 5 y5
 generalize w5.setCell ⟨b,5,none⟩ y5=w6 at h5⊢
 have h6:Fr (fun g=>g=b) w (w6.setCell ⟨b,6,none⟩ y6):=fr_set1 h5 6 y6
 generalize w6.setCell ⟨b,6,none⟩ y6=w7 at h6⊢
 have h7:Fr (fun g=>g=b) w (w7.setCell ⟨b,7,none⟩ y7):=fr_set1 h6 7 y7
 generalize w7.setCell ⟨b,7,none⟩ y7=w8 at h7⊢
 have h8:Fr (fun g=>g=b) w (w8.setCell ⟨b,8,none⟩ y8):=fr_set1 h7 8 y8
 generalize w8.setCell ⟨b,8,none⟩ y8=w9 at h8⊢
 exact h8
theorem zcells9:∀x∈(#[.int .u64 0,.int .u8 0,.int .i64 0,.bool false,.slice none 0 0,.int .i64 0,.bool false,.slice none 0 0,.int .i64 0]:Array Value).toList,∀n:Nat,x=L64 n→n=0:=by
 intro x hx n h
 rw[h]at hx
 simpa[L64]using hx
theorem decG_no {neg:Bool}{lo hi:Dn}{dir:Int}{b:Nat}{f:Int}(h:decG neg lo hi dir=(false,b,f)):b=0∧f=0:=by
 unfold decG decB at h
 split at h
 ·split at h
  ·cases h
  ·injection h with h1 h2;injection h2 with h2 h3;exact⟨h2.symm,h3.symm⟩
 ·injection h with h1 h2;injection h2 with h2 h3;exact⟨h2.symm,h3.symm⟩
def PRun (Iv:Nat→Dn→Dn→Prop) (neg:Bool) (dir:Int) (n:Nat) (ok:Bool) (b:Nat) (f:Int) (lo hi:Dn):Prop:=
 Iv n lo hi∧BareI lo hi∧decG neg lo hi dir=(ok,b,f)
open Go.RowKit
def RunR (Iv:Nat→Dn→Dn→Prop) (neg:Bool) (dir:Int) (l:List Nat) (b:Nat) (f st tr:Int):Prop:=
 (st=0∧∃(i n:Nat) (lo hi:Dn),i<9∧l[i]?=some n∧tr=((i+1:Nat):Int)∧(∀j,j<i→Failed (PRun Iv neg dir) l j)∧PRun Iv neg dir n true b f lo hi)∨
 (st=1∧tr=(l.length:Int)∧(∀j,j<l.length→Failed (PRun Iv neg dir) l j)∧∃n lo hi ok b' f',l[l.length-1]?=some n∧PRun Iv neg dir n false 0 0 lo hi∧looseG neg lo hi dir=(ok,b',f')∧(b,f)=if ok then(b',f')else(9221120237041090560,1))
theorem toB_more (neg:Bool) (M:Nat) (E dir:Int):(toB neg M E true dir).2=1∨(toB neg M E true dir).2=3∨(toB neg M E true dir).2=5:=by
 unfold toB
 split
 ·exact .inr (.inr rfl)
 ·split
  ·exact .inr (.inl rfl)
  ·unfold flagB wholeP
   dsimp only
   rw[Bool.or_true,Bool.or_true,if_pos rfl]
   split
   ·exact .inr (.inr rfl)
   ·split
    ·exact .inr (.inl rfl)
    ·exact .inl rfl
theorem loose_flags {neg ok:Bool}{lo hi:Dn}{dir f:Int}{b:Nat}(h:looseG neg lo hi dir=(ok,b,f)):(ok=true∧(f=1∨f=3∨f=5))∨(ok=false∧b=0∧f=0):=by
 unfold looseG at h
 split at h
 ·left
  injection h with e1 e2
  refine⟨e1.symm,?_⟩
  have a:=toB_more neg hi.m hi.e dir
  have c:=toB_more neg lo.m lo.e dir
  split at e2
  ·rw[e2]at a;exact a
  ·rw[e2]at c;exact c
 ·right
  injection h with e1 e2
  injection e2 with e2 e3
  exact⟨e1.symm,e2.symm,e3.symm⟩
theorem cells12 {w:World}{b:Nat}{x0 x1 x2 x3 x4 x5 x6 x7 x8 x9 x10 x11:Value}(h:Blk w b #[x0,x1,x2,x3,x4,x5,x6,x7,x8,x9,x10,x11]):w.cell? ⟨b,0,none⟩=some x0∧w.cell? ⟨b,1,none⟩=some x1∧w.cell? ⟨b,2,none⟩=some x2∧w.cell? ⟨b,10,none⟩=some x10:=by
 obtain⟨h1,T,h2⟩:=h
 exact⟨cell_at h2 rfl,cell_at h2 rfl,cell_at h2 rfl,cell_at h2 rfl⟩
theorem cells12t {w:World}{b:Nat}{x0 x1 x2 x3 x4 x5 x6 x7 x8 x9 x10 x11:Value}(h:Blk w b #[x0,x1,x2,x3,x4,x5,x6,x7,x8,x9,x10,x11]):w.cell? ⟨b,10,none⟩=some x10:=(cells12 h).2.2.2
theorem brk_of {j:Nat}{u t:Int}(h1:pw t≤(j:Rat)*pw (u-1)) (h2:(j:Rat)*pw (u-1)<pw (t+1)) (ht:t≤1023) (hu:u=unitB t):∃P F,P%2=1∧isBrk P F=true∧(P:Rat)*pw F=(j:Rat)*pw (u-1):=by
 have h0:j≠0:=fun h=>by
  rw[h,show((0:Nat):Rat)=0 from rfl,Rat.zero_mul]at h1
  have:=pw_pos t
  grind
 obtain⟨m,hm⟩:=low2_eq h0
 have hv:((2*m+1:Nat):Rat)*pw (u-1+(low2 j:Nat))=(j:Rat)*pw (u-1):=by
  have hm2:(j:Rat)=((2^low2 j:Nat):Rat)*((2*m+1:Nat):Rat):=by rw[←Rat.natCast_mul,←hm]
  rw[pw_add,pw_nat,hm2]
  grind
 refine⟨2*m+1,u-1+(low2 j:Nat),by omega,?_,hv⟩
 have htop:topD ⟨false,2*m+1,u-1+(low2 j:Nat)⟩=t:=top_val (by rw[hv];exact h1) (by rw[hv];exact h2)
 unfold isBrk
 rw[htop,if_neg (by omega)]
 refine decide_eq_true ?_
 rw[hu]
 unfold unitB
 omega
theorem toB_same {neg:Bool}{M M':Nat}{E E' dir:Int}(h0:M≠0) (h0':M'≠0) (hxy:(M:Rat)*pw E≤(M':Rat)*pw E')
 (hno:∀P F,P%2=1→isBrk P F=true→(M:Rat)*pw E≤(P:Rat)*pw F→(P:Rat)*pw F≤(M':Rat)*pw E'→False):toB neg M E false dir=toB neg M' E' false dir:=by
 obtain⟨a1,a2⟩:=top_in (n:=neg) (E:=E) h0
 obtain⟨c1,c2⟩:=top_in (n:=neg) (E:=E') h0'
 have hle:=top_mono (n:=neg) (n':=neg) h0 h0' hxy
 have hone:∀F:Int,((1:Nat):Rat)*pw F=pw F:=fun F=>Rat.one_mul _
 unfold toB
 by_cases g1:1023<topD ⟨neg,M',E'⟩
 ·have g2:1023<topD ⟨neg,M,E⟩:=by
   rcases Int.lt_or_le 1023 (topD ⟨neg,M,E⟩)with h|h
   ·exact h
   ·exfalso
    refine hno 1 1024 rfl (by rw[isBrk_one];decide) ?_ ?_
    ·rw[hone]
     have:=pw_mono (show topD ⟨neg,M,E⟩+1≤1024 by omega)
     grind
    ·rw[hone]
     have:=pw_mono (show 1024≤topD ⟨neg,M',E'⟩by omega)
     grind
  rw[if_pos g1,if_pos g2]
 ·have g2:¬1023<topD ⟨neg,M,E⟩:=by omega
  rw[if_neg g1,if_neg g2]
  by_cases g3:topD ⟨neg,M',E'⟩< -1075
  ·rw[if_pos g3,if_pos (by omega)]
  ·have ht:topD ⟨neg,M,E⟩=topD ⟨neg,M',E'⟩:=by
    rcases Int.lt_or_le (topD ⟨neg,M,E⟩) (topD ⟨neg,M',E'⟩)with h|h
    ·exfalso
     refine hno 1 (topD ⟨neg,M',E'⟩) rfl (by rw[isBrk_one,Bool.and_eq_true];exact⟨decide_eq_true (by omega),decide_eq_true (by omega)⟩) ?_ ?_
     ·rw[hone]
      have:=pw_mono (show topD ⟨neg,M,E⟩+1≤topD ⟨neg,M',E'⟩by omega)
      grind
     ·rw[hone];exact c1
    ·omega
   rw[if_neg g3,if_neg (by omega)]
   unfold sizeB flagB sizeB
   rw[ht]
   rw[ht]at a1 a2
   generalize topD ⟨neg,M',E'⟩=t at*
   obtain⟨q,h,b,hp⟩:∃q h b,partsP M E (unitB t)=(q,h,b):=⟨_,_,_,rfl⟩
   obtain⟨q',h',b',hp'⟩:∃q h b,partsP M' E' (unitB t)=(q,h,b):=⟨_,_,_,rfl⟩
   obtain⟨m1,m2⟩:=parts_mono hp hp' hxy
   obtain⟨x1,x2,x3,x4⟩:=parts_val hp
   obtain⟨y1,y2,y3,y4⟩:=parts_val hp'
   have hpu:=pw_pos (1-unitB t)
   have hpv:=pw_pos (unitB t-1)
   have huv:pw (1-unitB t)*pw (unitB t-1)=1:=by rw[←pw_add,show 1-unitB t+(unitB t-1)=0 by omega];exact pw_zero
   have hbrk:∀j:Nat,(M:Rat)*pw E≤(j:Rat)*pw (unitB t-1)→(j:Rat)*pw (unitB t-1)≤(M':Rat)*pw E'→False:=fun j j1 j2=>by
    obtain⟨P,F,p1,p2,p3⟩:=brk_of (j:=j) (u:=unitB t) (t:=t) (by grind) (by grind) (by omega) rfl
    exact hno P F p1 p2 (by rw[p3];exact j1) (by rw[p3];exact j2)
   have down:∀{v:Rat}{j:Nat},(j:Rat)≤v*pw (1-unitB t)→(j:Rat)*pw (unitB t-1)≤v:=fun{v j} hj=>by
    have:=Rat.mul_le_mul_of_nonneg_right hj (Rat.le_of_lt hpv)
    rw[Rat.mul_assoc,huv,Rat.mul_one]at this
    exact this
   have up:∀{v:Rat}{j:Nat},v*pw (1-unitB t)≤(j:Rat)→v≤(j:Rat)*pw (unitB t-1):=fun{v j} hj=>by
    have:=Rat.mul_le_mul_of_nonneg_right hj (Rat.le_of_lt hpv)
    rw[Rat.mul_assoc,huv,Rat.mul_one]at this
    exact this
   have hb1:b=true:=by
    cases b
    ·exfalso
     have e:=x3 rfl
     exact hbrk (2*q+hb h) (up (by rw[e];exact Rat.le_refl)) (by have:=down (v:=(M:Rat)*pw E) (j:=2*q+hb h) (by rw[e];exact Rat.le_refl);grind)
    ·rfl
   have hjj:2*q+hb h=2*q'+hb h':=by
    rcases Nat.lt_or_ge (2*q+hb h) (2*q'+hb h')with hlt|hge
    ·exfalso
     refine hbrk (2*q'+hb h') (up ?_) (down y1)
     have:((2*q+hb h+1:Nat):Rat)≤((2*q'+hb h':Nat):Rat):=Rat.natCast_le_natCast.2 hlt
     rw[Rat.natCast_add]at this
     have e1:((1:Nat):Rat)=1:=rfl
     grind
    ·omega
   have hb2:=m2 hjj hb1
   have hqh:q=q'∧h=h':=by
    have t1:=hb_cases h
    have t2:=hb_cases h'
    rcases t1 with⟨e1,f1⟩|⟨e1,f1⟩<;>rcases t2 with⟨e2,f2⟩|⟨e2,f2⟩
    ·exact⟨by omega,by rw[e1,e2]⟩
    ·exfalso;omega
    ·exfalso;omega
    ·exact⟨by omega,by rw[e1,e2]⟩
   obtain⟨rfl,rfl⟩:=hqh
   have hw:wholeP neg M E false dir (unitB t)=wholeP neg M' E' false dir (unitB t):=by
    unfold wholeP
    rw[hp,hp',hb1,hb2]
   rw[hw]
theorem toB_inexact {n:Bool}{M b:Nat}{E dir f:Int}(ho:M%2=1) (hb:isBrk M E=false) (ht:toB n M E false dir=(b,f)):f≠0:=by
 intro hf
 subst hf
 unfold toB at ht
 split at ht
 ·injection ht with _ h;cases h
 ·rename_i g1
  split at ht
  ·injection ht with _ h;cases h
  ·injection ht with _ h
   unfold flagB at h
   split at h
   ·cases h
   ·split at h
    ·split at h<;>cases h
    ·rename_i g2
     unfold isBrk at hb
     have ht2:topD ⟨false,M,E⟩=topD ⟨n,M,E⟩:=rfl
     rw[ht2,if_neg g1]at hb
     have hE:=of_decide_eq_false hb
     have hu:unitB (topD ⟨n,M,E⟩)=max (topD ⟨n,M,E⟩-52) (-1074):=rfl
     rw[←hu]at hE
     generalize unitB (topD ⟨n,M,E⟩)=u at*
     unfold wholeP partsP at g2
     rw[if_neg (show¬u≤E by omega)]at g2
     dsimp only at g2
     rw[Bool.or_false,Bool.or_eq_true,not_or]at g2
     obtain⟨g3,g4⟩:=g2
     rw[decide_eq_true_eq]at g3 g4
     obtain⟨k,hk⟩:∃k,(u-E).toNat-1=k+0:=⟨_,rfl⟩
     have h1:1≤(u-E).toNat:=by omega
     have g4':M%2^((u-E).toNat-1)=0:=by
      rcases Nat.eq_zero_or_pos (M%2^((u-E).toNat-1))with h|h
      ·exact h
      ·exact absurd (Nat.ne_of_gt h) g4
     rcases Nat.eq_zero_or_pos ((u-E).toNat-1)with h0|h0
     ·rw[h0,Nat.pow_zero,Nat.div_one]at g3
      exact g3 ho
     ·obtain⟨j,hj⟩:∃j,(u-E).toNat-1=j+1:=⟨(u-E).toNat-2,by omega⟩
      rw[hj,Nat.pow_succ]at g4'
      have hd:2^j*2∣M:=Nat.dvd_of_mod_eq_zero g4'
      obtain⟨c,hc⟩:=hd
      rw[hc,Nat.mul_assoc,Nat.mul_comm,Nat.mul_assoc]at ho
      omega
theorem dec_found {neg:Bool}{lo hi:Dn}{dir:Int}(hr:hrB lo hi=true) (q1:bareD lo=lo) (q2:bareD hi=hi)
 (hno:∀P F,P%2=1→isBrk P F=true→qv lo≤(P:Rat)*pw F→(P:Rat)*pw F≤qv hi→False):∃b f,decG neg lo hi dir=(true,b,f):=by
 obtain⟨n1,M1,E1⟩:=lo
 obtain⟨n2,M2,E2⟩:=hi
 obtain⟨v1,v2⟩:=hr_vals hr
 obtain⟨a1,a2,a3,a4⟩:=hr_pos hr
 dsimp only at a1 a2 a3 a4
 subst a1 a2
 rw[qv_pos,qv_pos]at v2
 rw[qv_pos,qv_pos]at hno
 unfold decG decB
 rw[if_pos hr]
 dsimp only
 have b1:isBrk M1 E1=false:=by
  cases h:isBrk M1 E1
  ·rfl
  ·exact(hno M1 E1 (bareD_oddM q1 a3) h Rat.le_refl v2).elim
 have b2:isBrk M2 E2=false:=by
  cases h:isBrk M2 E2
  ·rfl
  ·exact(hno M2 E2 (bareD_oddM q2 a4) h v2 Rat.le_refl).elim
 rw[if_pos ⟨b1,b2,toB_same a3 a4 v2 hno⟩]
 exact⟨_,_,rfl⟩
theorem dec_ends {neg:Bool}{lo hi:Dn}{dir f:Int}{b:Nat}(h:decG neg lo hi dir=(true,b,f)):(0<qv lo∧qv lo≤qv hi)∧(lo.neg=false∧hi.neg=false)∧isBrk lo.m lo.e=false∧isBrk hi.m hi.e=false∧lo.m≠0∧hi.m≠0∧toB neg lo.m lo.e false dir=(b,f)∧toB neg hi.m hi.e false dir=(b,f):=by
 unfold decG at h
 split at h
 ·rename_i hr
  unfold decB at h
  split at h
  ·rename_i hc
   obtain⟨c1,c2,c3⟩:=hc
   obtain⟨a1,a2,a3,a4⟩:=hr_pos hr
   have h2:toB neg lo.m lo.e false dir=(b,f):=by injection h
   exact⟨hr_vals hr,⟨a1,a2⟩,c1,c2,a3,a4,h2,c3▸h2⟩
  ·cases h
 ·cases h
set_option maxHeartbeats 1000000 in
theorem run1_exp {w:World}{g0 g1 g2 n:Nat}{neg:Bool}{dir fr pt:Int}{Iv:Nat→Dn→Dn→Prop}{p0:Value}(hT:Tab w) (d0:0≤dir) (d3:dir≤3) (P0:Blk w g0 #[.func (.func 31) #[] #[p0]]) (P1:Blk w g1 #[.bool neg]) (P2:Blk w g2 #[.int .i64 dir,.int .i64 fr,.int .i64 pt,.pointer none])
 (HH:∀w',Below w.heap.size w w'→Calls Tryz.prog 31 #[.int .i64 (n:Int),p0] w' (fun e w''=>∃n1 m1 f1 n2 m2 f2 x y,e= .returned (.tuple #[.agg #[.bool n1,x,.int .i64 f1,.bool n2,y,.int .i64 f2],.int .i64 0])∧(Iv n ⟨n1,m1,f1⟩ ⟨n2,m2,f2⟩∧BareI ⟨n1,m1,f1⟩ ⟨n2,m2,f2⟩)∧RdN w'' x (digs BB m1)∧RdN w'' y (digs BB m2)∧Below w'.heap.size w' w'')):
 Calls Tryz.prog 57 #[.int .i64 (n:Int),.pointer (some ⟨g0,0,none⟩),.pointer (some ⟨g1,0,none⟩),.pointer (some ⟨g2,0,none⟩)] w (fun e w'=>∃c ok,e= .returned (.tuple #[.agg c,.bool ok])∧AnsR (PRun Iv neg dir) w' c ok n∧Below w.heap.size w w'):=by
 have HH:=Lib.hid HH
 have B0:=below_alloc w (.cells #[.int .u64 0,.int .u8 0,.int .i64 0,.bool false,.slice none 0 0,.int .i64 0,.bool false,.slice none 0 0,.int .i64 0] 102)
 have R0:=blk_new (w:=w) (T:=102) (c:= #[.int .u64 0,.int .u8 0,.int .i64 0,.bool false,.slice none 0 0,.int .i64 0,.bool false,.slice none 0 0,.int .i64 0])
 have hw0:=P0.1
 have hw1:=P1.1
 have hw2:=P2.1
 have Q0:=P0.below B0
 have Q1:=P1.below B0
 have Q2:=P2.below B0
 go_enter Tryz.func57,Tryz.ntmps57
 go_upto_region 1 with fail
 have hT0:=hT.below B0
 have HH0:=Lib.hid (HH.out _ B0)
 generalize w.alloc (.cells #[.int .u64 0,.int .u8 0,.int .i64 0,.bool false,.slice none 0 0,.int .i64 0,.bool false,.slice none 0 0,.int .i64 0] 102)=w0 at*
 obtain⟨cq0,fq0,sq0⟩:=Q0.open1
 go_upto_region 2 with(first
  |(go_at_call 31;(with_reducible refine HH0.out.mono ?_);rintro e w1 ⟨n1,m1,f1,n2,m2,f2,xv,yv,rfl,⟨hI,hG⟩,x1,y1,HB⟩;obtain⟨ax1,kx1,rfl,-⟩:=x1.view;obtain⟨ay1,ky1,rfl,-⟩:=y1.view)
  |fail)
 have hI:=Lib.hid hI;have hG:=Lib.hid hG
 have hA7:=below_alloc w1 (.cells #[.bool n1,.slice ax1 (digs BB m1).length kx1,.int .i64 f1,.bool n2,.slice ay1 (digs BB m2).length ky1,.int .i64 f2] 70)
 have R7:Blk (w1.alloc (.cells #[.bool n1,.slice ax1 (digs BB m1).length kx1,.int .i64 f1,.bool n2,.slice ay1 (digs BB m2).length ky1,.int .i64 f2] 70)) w1.heap.size #[.bool n1,.slice ax1 (digs BB m1).length kx1,.int .i64 f1,.bool n2,.slice ay1 (digs BB m2).length ky1,.int .i64 f2]:=blk_new
 have T7:=(hT0.below HB).below hA7
 have Qa:=(Q1.below HB).below hA7
 have Qb:=(Q2.below HB).below hA7
 have R0a:=(R0.below HB).below hA7
 have x7:=x1.below hA7
 have y7:=y1.below hA7
 have B7:=(B0.trans (HB.mono B0.size)).trans (hA7.mono (Nat.le_trans B0.size HB.size))
 change Code.wp _ _ _ _ (w1.alloc (.cells #[.bool n1,.slice ax1 (digs BB m1).length kx1,.int .i64 f1,.bool n2,.slice ay1 (digs BB m2).length ky1,.int .i64 f2] 70))
 clear hT0 Q0 Q1 Q2 R0 x1 y1 B0 HH HH0 cq0 fq0 sq0 P0 P1 P2 hT
 generalize w1.alloc (.cells #[.bool n1,.slice ax1 (digs BB m1).length kx1,.int .i64 f1,.bool n2,.slice ay1 (digs BB m2).length ky1,.int .i64 f2] 70)=w7 at*
 generalize w1.heap.size=b7 at*
 have HR:=Lib.hid (dround_g (neg:=neg) x7 y7 T7 hG.out d0 d3)
 clear hA7 HB
 obtain⟨q0,q1,q2,q3,q4,q5,p0',p1',p2',p3',p4',p5',hb7⟩:=R7.open6
 obtain⟨ca,fa,sa⟩:=Qa.open1
 obtain⟨cb0,cb1,cb2,cb3,fb0,fb1,fb2,fb3,sb⟩:=Qb.open4
 go_upto_region 5 with(first
  |(go_at_call 58;(with_reducible refine HR.out.mono ?_);rintro e w8 ⟨b,f,ok,rfl,hdec,h8⟩)
  |fail)
 have R8:=R7.below h8
 have R0b:=R0a.below h8
 have x8:=x7.below h8
 have y8:=y7.below h8
 have B8:=B7.trans (h8.mono B7.size)
 have hdec:=Lib.hid hdec
 clear R7 R0a x7 y7 B7 h8 HR T7 Qa Qb ca fa sa cb0 cb1 cb2 cb3 fb0 fb1 fb2 fb3 sb q0 q1 q2 q3 q4 q5 p0' p1' p2' p3' p4' p5' hb7
 obtain⟨q0,q1,q2,q3,q4,q5,-⟩:=R8.open6
 obtain⟨s0,s1,s2,s3,s4,s5,s6,s7,s8,s9,s10,s11,s12,s13,s14,s15,s16,s17,s18⟩:=R0b.open9
 go_wp2_with fail
 have RZ:=R0b.set9 (L64 b) (.int .u8 f) (.int .i64 0) (.bool n1) (.slice ax1 (digs BB m1).length kx1) (.int .i64 f1) (.bool n2) (.slice ay1 (digs BB m2).length ky1) (.int .i64 f2)
 have FE:=Fr.set9 (w:=w8) (b:=w.heap.size) (L64 b) (.int .u8 f) (.int .i64 0) (.bool n1) (.slice ax1 (digs BB m1).length kx1) (.int .i64 f1) (.bool n2) (.slice ay1 (digs BB m2).length ky1) (.int .i64 f2)
 have X:Rd (fun g=>g≠w.heap.size) w8 (.slice ax1 (digs BB m1).length kx1) ((digs BB m1).map L64):=RdN.away0 x8 R0b zcells9
 have Y:Rd (fun g=>g≠w.heap.size) w8 (.slice ay1 (digs BB m2).length ky1) ((digs BB m2).map L64):=RdN.away0 y8 R0b zcells9
 have X2:=X.keep FE (fun _ h=>h)
 have Y2:=Y.keep FE (fun _ h=>h)
 have hBf:=B8.trans (FE.below B8.size (fun k hk e=>by omega))
 change bodyPost _ _ _ _ _ ((((((((((w8).setCell ⟨w.heap.size,0,none⟩ (L64 b)).setCell ⟨w.heap.size,1,none⟩ (.int .u8 f)).setCell ⟨w.heap.size,2,none⟩ (.int .i64 0)).setCell ⟨w.heap.size,3,none⟩ (.bool n1)).setCell ⟨w.heap.size,4,none⟩ (.slice ax1 (digs BB m1).length kx1)).setCell ⟨w.heap.size,5,none⟩ (.int .i64 f1)).setCell ⟨w.heap.size,6,none⟩ (.bool n2)).setCell ⟨w.heap.size,7,none⟩ (.slice ay1 (digs BB m2).length ky1)).setCell ⟨w.heap.size,8,none⟩ (.int .i64 f2))
 generalize (((((((((w8).setCell ⟨w.heap.size,0,none⟩ (L64 b)).setCell ⟨w.heap.size,1,none⟩ (.int .u8 f)).setCell ⟨w.heap.size,2,none⟩ (.int .i64 0)).setCell ⟨w.heap.size,3,none⟩ (.bool n1)).setCell ⟨w.heap.size,4,none⟩ (.slice ax1 (digs BB m1).length kx1)).setCell ⟨w.heap.size,5,none⟩ (.int .i64 f1)).setCell ⟨w.heap.size,6,none⟩ (.bool n2)).setCell ⟨w.heap.size,7,none⟩ (.slice ay1 (digs BB m2).length ky1)).setCell ⟨w.heap.size,8,none⟩ (.int .i64 f2)=wf at*
 obtain⟨z0,z1,z2,z3,z4,z5,z6,z7,z8,-⟩:=RZ.open9
 refine bodyPost_ret (v:= .tuple #[.agg #[L64 b,.int .u8 f,.int .i64 0,.bool n1,.slice ax1 (digs BB m1).length kx1,.int .i64 f1,.bool n2,.slice ay1 (digs BB m2).length ky1,.int .i64 f2],.bool ok]) (by simp[results,Tryz.results57,go_sem,z0,z1,z2,z3,z4,z5,z6,z7,z8]) rfl ⟨#[L64 b,.int .u8 f,.int .i64 0,.bool n1,.slice ax1 (digs BB m1).length kx1,.int .i64 f1,.bool n2,.slice ay1 (digs BB m2).length ky1,.int .i64 f2],ok,rfl,⟨b,f,n1,m1,f1,n2,m2,f2,ax1,kx1,ay1,ky1,rfl,⟨hI.out,hG.out,hdec.out⟩,(fun h=>(decG_no (hdec.out.trans (by rw[h]))).1),X2.mono (fun _ _ _=>trivial),Y2.mono (fun _ _ _=>trivial)⟩,hBf⟩
set_option maxHeartbeats 1000000 in
theorem run_exp {w:World}{fr pt:Nat}{neg:Bool}{dir:Int}{Iv:Nat→Dn→Dn→Prop}{p0:Value}(hT:Tab w) (h1:32≤fr) (h2:fr≤pt) (h3:64≤pt) (h4:pt≤8192) (d0:0≤dir) (d3:dir≤3)
 (HH:∀w' n,32≤n→n≤pt→Below w.heap.size w w'→Calls Tryz.prog 31 #[.int .i64 (n:Int),p0] w' (fun e w''=>∃n1 m1 f1 n2 m2 f2 x y,e= .returned (.tuple #[.agg #[.bool n1,x,.int .i64 f1,.bool n2,y,.int .i64 f2],.int .i64 0])∧(Iv n ⟨n1,m1,f1⟩ ⟨n2,m2,f2⟩∧BareI ⟨n1,m1,f1⟩ ⟨n2,m2,f2⟩)∧RdN w'' x (digs BB m1)∧RdN w'' y (digs BB m2)∧Below w'.heap.size w' w'')):
 Calls Tryz.prog 30 #[.agg #[.int .i64 dir,.int .i64 (fr:Int),.int .i64 (pt:Int),.pointer none],.bool neg,.func (.func 31) #[] #[p0]] w (fun e w'=>∃l b f st tr,e= .returned (.tuple #[.agg #[L64 b,.int .u8 f,.int .i64 st],.int .i64 tr,.int .i64 0])∧PlanR fr pt l∧RunR Iv neg dir l b f st tr∧Below w.heap.size w w'):=by
 have HH:=Lib.hid HH
 have HP:=Lib.hid (fun w=>plan_ok (w:=w) h1 h2 h3 h4)
 go_enter Tryz.func30,Tryz.ntmps30
 go_upto_region 1 with fail
 have hB1:=below_alloc w (.cells #[.int .i64 dir,.int .i64 (fr:Int),.int .i64 (pt:Int),.pointer none] 33)
 have K1:Blk (w.alloc (.cells #[.int .i64 dir,.int .i64 (fr:Int),.int .i64 (pt:Int),.pointer none] 33)) w.heap.size #[.int .i64 dir,.int .i64 (fr:Int),.int .i64 (pt:Int),.pointer none]:=blk_new
 have z1:(w.alloc (.cells #[.int .i64 dir,.int .i64 (fr:Int),.int .i64 (pt:Int),.pointer none] 33)).heap.size=w.heap.size+1:=by simp
 have T1:=hT.below hB1
 have B1:Below w.heap.size w (w.alloc (.cells #[.int .i64 dir,.int .i64 (fr:Int),.int .i64 (pt:Int),.pointer none] 33)):=hB1
 generalize w.alloc (.cells #[.int .i64 dir,.int .i64 (fr:Int),.int .i64 (pt:Int),.pointer none] 33)=wA at*
 (try rw[←z1])
 clear z1 hB1
 have hB2:=below_alloc wA (.cells #[.bool neg] 4)
 have K2:Blk (wA.alloc (.cells #[.bool neg] 4)) wA.heap.size #[.bool neg]:=blk_new
 have z2:(wA.alloc (.cells #[.bool neg] 4)).heap.size=wA.heap.size+1:=by simp
 replace K1:=K1.below hB2
 have T2:=T1.below hB2
 have B2:Below w.heap.size w (wA.alloc (.cells #[.bool neg] 4)):=B1.trans (hB2.mono B1.size)
 generalize wA.alloc (.cells #[.bool neg] 4)=wB at*
 (try rw[←z2])
 clear z2 hB2 T1 B1
 have hB3:=below_alloc wB (.cells #[.func (.func 31) #[] #[p0]] 77)
 have K3:Blk (wB.alloc (.cells #[.func (.func 31) #[] #[p0]] 77)) wB.heap.size #[.func (.func 31) #[] #[p0]]:=blk_new
 have z3:(wB.alloc (.cells #[.func (.func 31) #[] #[p0]] 77)).heap.size=wB.heap.size+1:=by simp
 replace K1:=K1.below hB3
 replace K2:=K2.below hB3
 have T3:=T2.below hB3
 have B3:Below w.heap.size w (wB.alloc (.cells #[.func (.func 31) #[] #[p0]] 77)):=B2.trans (hB3.mono B2.size)
 generalize wB.alloc (.cells #[.func (.func 31) #[] #[p0]] 77)=wC at*
 (try rw[←z3])
 clear z3 hB3 T2 B2
 have hwC:w.heap.size≤wC.heap.size:=B3.size
 have hB4:=below_alloc wC (.cells #[.int .u64 0,.int .u8 0,.int .i64 0] 38)
 have K4:Blk (wC.alloc (.cells #[.int .u64 0,.int .u8 0,.int .i64 0] 38)) wC.heap.size #[.int .u64 0,.int .u8 0,.int .i64 0]:=blk_new
 have z4:(wC.alloc (.cells #[.int .u64 0,.int .u8 0,.int .i64 0] 38)).heap.size=wC.heap.size+1:=by simp
 replace K1:=K1.below hB4
 replace K2:=K2.below hB4
 replace K3:=K3.below hB4
 have T4:=T3.below hB4
 have B4:Below w.heap.size w (wC.alloc (.cells #[.int .u64 0,.int .u8 0,.int .i64 0] 38)):=B3.trans (hB4.mono B3.size)
 generalize wC.alloc (.cells #[.int .u64 0,.int .u8 0,.int .i64 0] 38)=wD at*
 (try rw[←z4])
 clear z4 hB4 T3 B3
 clear hT
 obtain⟨c30,c31,c32,c33,f30,f31,f32,f33,s3⟩:=K1.open4
 go_upto_region 3 with(first
  |(go_at_call 44;(with_reducible refine(HP.out _).mono ?_);rintro e w1 ⟨v1,l,rfl,hl1,hr1,h1⟩;have K1':=K1.below h1;have K2':=K2.below h1;have K3':=K3.below h1;have K4':=K4.below h1;have T1:=T4.below h1;have B1:=B4.trans (h1.mono B4.size);obtain⟨c30,c31,c32,c33,f30,f31,f32,f33,s3⟩:=K1'.open4;have HR1:=Lib.hid (fun w' (n:Nat) (hn:n∈l) (hb:Below w1.heap.size w1 w')=>run1_exp (Iv:=Iv) (neg:=neg) (n:=n) (T1.below hb) d0 d3 (K3'.below hb) (K2'.below hb) (K1'.below hb) (fun w'' hb2=>HH.out w'' n (hl1.1 n hn).1 (hl1.1 n hn).2.2 ((B1.trans (hb.mono B1.size)).trans (hb2.mono (Nat.le_trans B1.size hb.size))))))
  |(go_at_call 56;(with_reducible refine(cgo_f (P:=PRun Iv neg dir) hr1 hl1.2.2.1 hl1.2.1 HR1.out).mono ?_);rintro e w2 ⟨b,f,n1,m1,e1,n2,m2,e2,a1,k1,a2,k2,nb,tr,en,rfl,hres,x2,y2,h2⟩)
  |fail)
 have hres:=Lib.hid hres
 have hPl:=Lib.hid hl1.2.2.2
 have hA:=below_alloc w2 (.cells #[L64 b,.int .u8 f,.int .i64 0,.bool n1,.slice a1 (digs BB m1).length k1,.int .i64 e1,.bool n2,.slice a2 (digs BB m2).length k2,.int .i64 e2,.int .i64 nb,.int .i64 tr,.int .i64 en] 105)
 have R12:Blk (w2.alloc (.cells #[L64 b,.int .u8 f,.int .i64 0,.bool n1,.slice a1 (digs BB m1).length k1,.int .i64 e1,.bool n2,.slice a2 (digs BB m2).length k2,.int .i64 e2,.int .i64 nb,.int .i64 tr,.int .i64 en] 105)) w2.heap.size #[L64 b,.int .u8 f,.int .i64 0,.bool n1,.slice a1 (digs BB m1).length k1,.int .i64 e1,.bool n2,.slice a2 (digs BB m2).length k2,.int .i64 e2,.int .i64 nb,.int .i64 tr,.int .i64 en]:=blk_new
 have Ka:=(K1'.below h2).below hA
 have Kb:=(K2'.below h2).below hA
 have Kd:=(K4'.below h2).below hA
 have Ta:=(T1.below h2).below hA
 have Ba:=(B1.trans (h2.mono B1.size)).trans (hA.mono (Nat.le_trans B1.size h2.size))
 have xa:=x2.below hA
 have ya:=y2.below hA
 have hlt:wC.heap.size<w2.heap.size:=by have:=K4'.1;have:=h2.size;omega
 change Code.wp _ _ _ _ (w2.alloc (.cells #[L64 b,.int .u8 f,.int .i64 0,.bool n1,.slice a1 (digs BB m1).length k1,.int .i64 e1,.bool n2,.slice a2 (digs BB m2).length k2,.int .i64 e2,.int .i64 nb,.int .i64 tr,.int .i64 en] 105))
 clear T1 B1 K1' K2' K3' K4' h2 hA x2 y2 HR1 HP HH hl1 hr1 h1 c30 c31 c32 c33 f30 f31 f32 f33 s3 K1 K2 K3 K4 T4 B4
 generalize w2.alloc (.cells #[L64 b,.int .u8 f,.int .i64 0,.bool n1,.slice a1 (digs BB m1).length k1,.int .i64 e1,.bool n2,.slice a2 (digs BB m2).length k2,.int .i64 e2,.int .i64 nb,.int .i64 tr,.int .i64 en] 105)=wa at*
 generalize w2.heap.size=b9 at*
 obtain⟨q0,q1,q2,q3,q4,q5,q6,q7,q8,q9,q10,q11,q12,q13,q14,q15,q16,q17,q18,q19,q20,q21,q22,q23,q24⟩:=R12.open12
 obtain⟨c30,c31,c32,c33,f30,f31,f32,f33,s3⟩:=Ka.open4
 obtain⟨c40,f40,s4⟩:=Kb.open1
 obtain⟨c60,c61,c62,f60,f61,f62,s6⟩:=Kd.open3
 have hne:b9≠wC.heap.size:=by omega
 rcases hres.out with⟨rfl,i,n,hi,ht,hn,hF,hP⟩|⟨rfl,ht,hF,n,hn,rfl,hP⟩
 ·have hQ:=Lib.hid (show RunR Iv neg dir l b f 0 tr from .inl ⟨rfl,i,n,_,_,hi,hn,ht,hF,hP⟩)
  clear hres hP hF hn ht hi
  go_upto_region 4 with fail
  go_region_held3 (fun w'=>w'.cell? ⟨b9,0,none⟩=some (L64 b)∧w'.cell? ⟨b9,1,none⟩=some (.int .u8 f)∧w'.cell? ⟨b9,2,none⟩=some (.int .i64 0)∧w'.cell? ⟨b9,10,none⟩=some (.int .i64 tr))
   (refine cells12 (x3:= .bool n1) (x4:= .slice a1 (digs BB m1).length k1) (x5:= .int .i64 e1) (x6:= .bool n2) (x7:= .slice a2 (digs BB m2).length k2) (x8:= .int .i64 e2) (x9:= .int .i64 nb) (x11:= .int .i64 0) ?_<;>(repeat' (first|with_reducible assumption|with_reducible exact blk_new|with_reducible exact blk_a2|with_reducible exact Below.refl _ _|with_reducible refine Blk.set3z ?_ _ _ _|with_reducible refine Blk.other3 ?_ ?_ _ _ _|with_reducible refine Blk.next ?_|with_reducible refine Blk.dr ?_|with_reducible refine bel_dr ?_|with_reducible refine bel_set3 ?_ ?_ _ _ _|with_reducible refine bel_next ?_|with_reducible refine RdD.set3z ?_ ?_ _ _ _|with_reducible refine RdN.set3z ?_ ?_ _ _ _|with_reducible refine RdD.below ?_ (below_alloc _ _)|with_reducible refine RdN.below ?_ (below_alloc _ _)|((try simp only[size_alloc,size_drew]);omega))))
   (first|fail)
  go_wp2_with fail
  obtain⟨z0,z1,z2,-⟩:=(Kd.set3 (L64 b) (.int .u8 f) (.int .i64 0)).dr.open3
  refine bodyPost_ret (v:= .tuple #[.agg #[L64 b,.int .u8 f,.int .i64 0],.int .i64 tr,.int .i64 0]) (by simp[results,Tryz.results30,go_sem,z0,z1,z2]) rfl ⟨l,_,_,_,_,rfl,hPl.out,hQ.out,below_drewN (below_set3b Ba hwC _ _ _) 1⟩
 ·obtain rfl:f=0:=(decG_no hP.2.2).2
  have HL:=Lib.hid (dloose_g (neg:=neg) xa ya Ta hP.2.1 d0 d3)
  have hQ0:=Lib.hid (fun ok b' f' b f (h:looseG neg ⟨n1,m1,e1⟩ ⟨n2,m2,e2⟩ dir=(ok,b',f')) (e:(b,f)=if ok then(b',f')else(9221120237041090560,1))=>show RunR Iv neg dir l b f 1 tr from .inr ⟨rfl,ht,hF,n,_,_,ok,b',f',hn,hP,h,e⟩)
  clear hres hP hF hn ht xa ya Ta
  go_upto_region 6 with(first
   |(go_at_call 59;(with_reducible refine HL.out.mono ?_);rintro e w8 ⟨b',f',ok,rfl,hlo,h8⟩)
   |fail)
  have R8:=R12.below h8
  have lo8:wC.heap.size<w8.heap.size:=Nat.lt_of_lt_of_le s6 h8.size
  obtain⟨v0,v1,v2,v3,v4,v5,v6,v7,v8,v9,v10,v11,v12,v13,v14,v15,v16,v17,v18,v19,v20,v21,v22,v23,v24⟩:=R8.open12
  have K8:=Kd.below h8
  obtain⟨c80,c81,c82,f80,f81,f82,s8⟩:=K8.open3
  have o0:bits BinOp.or IntKind.u8 0 1=1:=by decide
  have o1:bits BinOp.or IntKind.u8 1 1=1:=by decide
  have o3:bits BinOp.or IntKind.u8 3 1=3:=by decide
  have o5:bits BinOp.or IntKind.u8 5 1=5:=by decide
  rcases loose_flags hlo with⟨rfl,hf⟩|⟨rfl,rfl,rfl⟩
  ·have hQ:=Lib.hid (hQ0.out true b' f' b' f' hlo rfl)
   clear hQ0 hlo
   rcases hf with rfl|rfl|rfl
   ·
    go_upto_region 8 with fail
    go_region_held3 (fun w'=>w'.cell? ⟨b9,10,none⟩=some (.int .i64 tr))
     (refine cells12t (x0:=L64 0) (x1:= .int .u8 0) (x2:= .int .i64 0) (x3:= .bool n1) (x4:= .slice a1 (digs BB m1).length k1) (x5:= .int .i64 e1) (x6:= .bool n2) (x7:= .slice a2 (digs BB m2).length k2) (x8:= .int .i64 e2) (x9:= .int .i64 nb) (x11:= .int .i64 2) ?_<;>(repeat' (first|with_reducible assumption|with_reducible exact blk_new|with_reducible exact blk_a2|with_reducible exact Below.refl _ _|with_reducible refine Blk.set3z ?_ _ _ _|with_reducible refine Blk.other3 ?_ ?_ _ _ _|with_reducible refine Blk.next ?_|with_reducible refine Blk.dr ?_|with_reducible refine bel_dr ?_|with_reducible refine bel_set3 ?_ ?_ _ _ _|with_reducible refine bel_next ?_|with_reducible refine RdD.set3z ?_ ?_ _ _ _|with_reducible refine RdN.set3z ?_ ?_ _ _ _|with_reducible refine RdD.below ?_ (below_alloc _ _)|with_reducible refine RdN.below ?_ (below_alloc _ _)|((try simp only[size_alloc,size_drew]);omega))))
     (first|fail)
    go_wp2_with fail
    obtain⟨z0,z1,z2,-⟩:=((Kd.below h8).set3 (L64 b') (.int .u8 1) (.int .i64 1)).dr.open3
    refine bodyPost_ret (v:= .tuple #[.agg #[L64 b',.int .u8 1,.int .i64 1],.int .i64 tr,.int .i64 0]) (by simp[results,Tryz.results30,go_sem,z0,z1,z2]) rfl ⟨l,_,_,_,_,rfl,hPl.out,hQ.out,below_drewN (below_set3b (Ba.trans (h8.mono Ba.size)) hwC _ _ _) 1⟩
   ·
    go_upto_region 8 with fail
    go_region_held3 (fun w'=>w'.cell? ⟨b9,10,none⟩=some (.int .i64 tr))
     (refine cells12t (x0:=L64 0) (x1:= .int .u8 0) (x2:= .int .i64 0) (x3:= .bool n1) (x4:= .slice a1 (digs BB m1).length k1) (x5:= .int .i64 e1) (x6:= .bool n2) (x7:= .slice a2 (digs BB m2).length k2) (x8:= .int .i64 e2) (x9:= .int .i64 nb) (x11:= .int .i64 2) ?_<;>(repeat' (first|with_reducible assumption|with_reducible exact blk_new|with_reducible exact blk_a2|with_reducible exact Below.refl _ _|with_reducible refine Blk.set3z ?_ _ _ _|with_reducible refine Blk.other3 ?_ ?_ _ _ _|with_reducible refine Blk.next ?_|with_reducible refine Blk.dr ?_|with_reducible refine bel_dr ?_|with_reducible refine bel_set3 ?_ ?_ _ _ _|with_reducible refine bel_next ?_|with_reducible refine RdD.set3z ?_ ?_ _ _ _|with_reducible refine RdN.set3z ?_ ?_ _ _ _|with_reducible refine RdD.below ?_ (below_alloc _ _)|with_reducible refine RdN.below ?_ (below_alloc _ _)|((try simp only[size_alloc,size_drew]);omega))))
     (first|fail)
    go_wp2_with fail
    obtain⟨z0,z1,z2,-⟩:=((Kd.below h8).set3 (L64 b') (.int .u8 3) (.int .i64 1)).dr.open3
    refine bodyPost_ret (v:= .tuple #[.agg #[L64 b',.int .u8 3,.int .i64 1],.int .i64 tr,.int .i64 0]) (by simp[results,Tryz.results30,go_sem,z0,z1,z2]) rfl ⟨l,_,_,_,_,rfl,hPl.out,hQ.out,below_drewN (below_set3b (Ba.trans (h8.mono Ba.size)) hwC _ _ _) 1⟩
   ·
    go_upto_region 8 with fail
    go_region_held3 (fun w'=>w'.cell? ⟨b9,10,none⟩=some (.int .i64 tr))
     (refine cells12t (x0:=L64 0) (x1:= .int .u8 0) (x2:= .int .i64 0) (x3:= .bool n1) (x4:= .slice a1 (digs BB m1).length k1) (x5:= .int .i64 e1) (x6:= .bool n2) (x7:= .slice a2 (digs BB m2).length k2) (x8:= .int .i64 e2) (x9:= .int .i64 nb) (x11:= .int .i64 2) ?_<;>(repeat' (first|with_reducible assumption|with_reducible exact blk_new|with_reducible exact blk_a2|with_reducible exact Below.refl _ _|with_reducible refine Blk.set3z ?_ _ _ _|with_reducible refine Blk.other3 ?_ ?_ _ _ _|with_reducible refine Blk.next ?_|with_reducible refine Blk.dr ?_|with_reducible refine bel_dr ?_|with_reducible refine bel_set3 ?_ ?_ _ _ _|with_reducible refine bel_next ?_|with_reducible refine RdD.set3z ?_ ?_ _ _ _|with_reducible refine RdN.set3z ?_ ?_ _ _ _|with_reducible refine RdD.below ?_ (below_alloc _ _)|with_reducible refine RdN.below ?_ (below_alloc _ _)|((try simp only[size_alloc,size_drew]);omega))))
     (first|fail)
    go_wp2_with fail
    obtain⟨z0,z1,z2,-⟩:=((Kd.below h8).set3 (L64 b') (.int .u8 5) (.int .i64 1)).dr.open3
    refine bodyPost_ret (v:= .tuple #[.agg #[L64 b',.int .u8 5,.int .i64 1],.int .i64 tr,.int .i64 0]) (by simp[results,Tryz.results30,go_sem,z0,z1,z2]) rfl ⟨l,_,_,_,_,rfl,hPl.out,hQ.out,below_drewN (below_set3b (Ba.trans (h8.mono Ba.size)) hwC _ _ _) 1⟩
  ·have hQ:=Lib.hid (hQ0.out false 0 0 9221120237041090560 1 hlo rfl)
   clear hQ0 hlo
   go_upto_region 8 with fail
   go_region_held3 (fun w'=>w'.cell? ⟨b9,10,none⟩=some (.int .i64 tr))
    (refine cells12t (x0:=L64 0) (x1:= .int .u8 0) (x2:= .int .i64 0) (x3:= .bool n1) (x4:= .slice a1 (digs BB m1).length k1) (x5:= .int .i64 e1) (x6:= .bool n2) (x7:= .slice a2 (digs BB m2).length k2) (x8:= .int .i64 e2) (x9:= .int .i64 nb) (x11:= .int .i64 2) ?_<;>(repeat' (first|with_reducible assumption|with_reducible exact blk_new|with_reducible exact blk_a2|with_reducible exact Below.refl _ _|with_reducible refine Blk.set3z ?_ _ _ _|with_reducible refine Blk.other3 ?_ ?_ _ _ _|with_reducible refine Blk.next ?_|with_reducible refine Blk.dr ?_|with_reducible refine bel_dr ?_|with_reducible refine bel_set3 ?_ ?_ _ _ _|with_reducible refine bel_next ?_|with_reducible refine RdD.set3z ?_ ?_ _ _ _|with_reducible refine RdN.set3z ?_ ?_ _ _ _|with_reducible refine RdD.below ?_ (below_alloc _ _)|with_reducible refine RdN.below ?_ (below_alloc _ _)|((try simp only[size_alloc,size_drew]);omega))))
    (first|fail)
   go_wp2_with fail
   obtain⟨z0,z1,z2,-⟩:=((Kd.below h8).set3 (.int .u64 9221120237041090560) (.int .u8 1) (.int .i64 1)).dr.open3
   refine bodyPost_ret (v:= .tuple #[.agg #[.int .u64 9221120237041090560,.int .u8 1,.int .i64 1],.int .i64 tr,.int .i64 0]) (by simp[results,Tryz.results30,go_sem,z0,z1,z2]) rfl ⟨l,_,_,_,_,rfl,hPl.out,hQ.out,below_drewN (below_set3b (Ba.trans (h8.mono Ba.size)) hwC _ _ _) 1⟩
end Go.Proofs.YtffaefjkpipjnaaGreatDoor
