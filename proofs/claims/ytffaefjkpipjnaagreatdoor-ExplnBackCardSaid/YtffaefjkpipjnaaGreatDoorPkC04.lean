/- nat.Bits by its contract. Conditions: the list is short, its limbs are limbs. -/
import Derived.Test.YtffaefjkpipjnaaGreatDoorPkC02
import Derived.Test.YtffaefjkpipjnaaGreatDoorPkC03
import Derived.Test.YtffaefjkpipjnaaGreatDoorPkC01
import Derived.Laws.BitsLemmas
namespace Go.Proofs.YtffaefjkpipjnaaGreatDoor
set_option maxRecDepth 100000
open Go.RowKit
set_option maxHeartbeats 400000 in
theorem bits_any {w:World}{v:Value}{l:List Nat}(h:RdN w v l) (hd:Dig BB l) (hl:l.length≤100000):
 Calls Tryz.prog 48 #[v] w (fun e w'=>e= .returned (.int .i64 ((if strip l=[]then 0 else 64*((strip l).length-1)+Lib.bitLen ((strip l).getD ((strip l).length-1) 0):Nat):Int))∧Below w.heap.size w w'):=by
 have HB:=bare_any h hl
 have hs:Dig BB (strip l):=by rw[strip_eq BB_two hd];exact dig_digs BB_two _
 have hsl:=strip_length_le l
 clear h hd
 generalize strip l=s at HB hs hsl⊢
 by_cases hs0:s=[]
 ·subst hs0
  go_enter Tryz.func48,Tryz.ntmps48
  go_wp2_with (go_at_call 75;refine HB.mono ?_;rintro e w1 ⟨v1,rfl,hr,hb⟩;obtain⟨a,c,rfl,h2,h3,h4,hc⟩:=hr.view;clear hr hc)
  go_ret
  exact⟨by simp,hb⟩
 ·have hp:0<s.length:=List.length_pos_iff.2 hs0
  have d0:((s.length:Int)==0)=false:=by simp;omega
  have hx:=hs.getD BB_pos (s.length-1)
  rw[if_neg hs0]
  go_enter Tryz.func48,Tryz.ntmps48
  go_wp2_with (first
   |(go_at_call 75;refine HB.mono ?_;rintro e w1 ⟨v1,rfl,hr,hb⟩;obtain⟨a,c,rfl,h2,h3,h4,hc⟩:=hr.view;obtain⟨g,off,rfl,hg,hcell⟩:=hc (s.length-1) (Nat.sub_lt hp Nat.zero_lt_one);clear hr hc)
   |(go_at_call 76;refine(Tryz.bits_Len64 _ _ ?_ ?_).mono ?_;(focus omega);(focus(unfold BB at hx;simp at hx⊢;omega));rintro e w2 ⟨rfl,rfl⟩))
  go_ret
  have hb6:Lib.bitLen (s[s.length-1]?.getD 0)≤64:=Lib.bitLen_le _ 64 (by omega) (by rw[←List.getD_eq_getElem?_getD];unfold BB at hx;omega)
  refine⟨?_,hb⟩
  rw[List.getD_eq_getElem?_getD]
  show Ending.returned (Value.int IntKind.i64 (wrap64 (64*((s.length:Int)-1)+((Lib.bitLen (s[s.length-1]?.getD 0):Nat):Int))))=_
  generalize Lib.bitLen (s[s.length-1]?.getD 0)=q at hb6
  have W:wrap64 (64*((s.length:Int)-1)+(q:Int))=64*((s.length:Int)-1)+(q:Int):=by unfold wrap64;omega
  rw[W,show(64*((s.length:Int)-1)+(q:Int))=((64*(s.length-1)+q:Nat):Int)by omega]
end Go.Proofs.YtffaefjkpipjnaaGreatDoor
namespace Go.Proofs.YtffaefjkpipjnaaGreatDoor
set_option maxRecDepth 100000
open Go.RowKit
def mLo (x y:Nat):Nat:=x*y%BB
def mHi (x y:Nat):Nat:=x*y/BB
def sLo (x y:Nat):Nat:=(x+y)%BB
def sHi (x y:Nat):Nat:=(x+y)/BB
theorem run_add0 (x y:Nat) (w:World):
 (callFunc 130 #[.int .u64 x,.int .u64 y,.int .u64 0]).run Tryz.prog w= .ok (.value (.tuple #[.int .u64 (sLo x y:Nat),.int .u64 (sHi x y:Nat)])) w:=run_add x y 0 (Nat.zero_le _) w
theorem mul_named {x y:Nat}(hx:x<BB) (hy:y<BB) (w:World):
 Calls Tryz.prog 142 #[L64 x,L64 y] w fun e w'=>e= .returned (.tuple #[.int .u64 (mHi x y:Nat),.int .u64 (mLo x y:Nat)])∧w'=w:=Tryz.bits_Mul64 x y hx hy w
theorem getD_lt {l:List Nat}{k:Nat}(h:k<l.length):l.getD k 0=l[k]:=by
 rw[List.getD_eq_getElem?_getD,List.getElem?_eq_getElem h,Option.getD_some]
def RowRel (w:World) (B N off base:Nat) (l X0:List Nat) (n k cy:Nat) (X:List Nat) (wr:World):Prop:=
 RowSum BB off l X0 n k cy X∧k≤l.length∧wr.ownsRow base 22 1 (.slice (some ⟨B,0,none⟩) N N) N (X.map L64)∧Fr (fun g=>g=B) w wr
def RowEnd (w:World) (B N off base:Nat) (l X0:List Nat) (n:Nat) (w':World):Prop:=
 ∃X,w'.ownsRow base 22 1 (.slice (some ⟨B,0,none⟩) N N) N (X.map L64)∧Fr (fun g=>g=B) w w'∧X.length=X0.length∧Dig BB X∧
  (∀j,off+l.length+1≤j→X.getD j 0=X0.getD j 0)∧val BB (X.take (off+l.length+1))=val BB (X0.take (off+l.length))+BB^off*(val BB l*n)
set_option maxHeartbeats 400000 in
theorem row_any {w:World}{B M off base:Nat}{v:Value}{l X0:List Nat}{n:Nat}(how:w.ownsRow base 22 1 (.slice (some ⟨B,0,none⟩) (off+M) (off+M)) (off+M) (X0.map L64)) (hl:Rd (fun g=>g≠B) w v (l.map L64)) (hlen:l.length+1≤M) (hN:off+M≤100000) (hX0:X0.length=off+M) (hd:Dig BB l) (hd0:Dig BB X0) (hn:n<BB):
 Calls Tryz.prog 133 #[.slice (some ⟨B,off,none⟩) M M,v,L64 n] w (fun e w'=>e= .returned (.tuple #[])∧RowEnd w B (off+M) off base l X0 n w'):=by
 obtain⟨a,c,rfl,h2,h3,h4,-⟩:=hl.view
 rw[List.length_map]at h2 hl⊢
 unfold maxLen at h3
 have HL:=Lib.hid hl;have HO:=Lib.hid how;clear hl how
 go_enter Tryz.func133,Tryz.ntmps133
 go_wp2
 go_loopw [14,6] (fun i cy wr=>∃(k cy':Nat) (X:List Nat),i= .int .i64 k∧cy=L64 cy'∧RowRel w B (off+M) off base l X0 n k cy' X wr) (fun i _ _=>l.length-(intOf i).toNat)
 case atStart=>
  exact⟨0,0,X0,rfl,rfl,.start BB_pos hd0,Nat.zero_le _,HO.out,.refl _ _⟩
 case round=>
  obtain⟨k,cy,X,rfl,rfl,hs,hk,how,hfr⟩:=hrel
  have HR:=Lib.hid hs;have HOW:=Lib.hid how;have HF:=Lib.hid hfr
  have hXl:X.length=off+M:=by rw[hs.len,hX0]
  have hcy:=hs.carry
  have hdX:=Lib.hid hs.dig
  clear how hfr hs
  by_cases hkn:k<l.length
  ·obtain⟨a',c',e1,-,-,-,hc⟩:=(HL.out.keep HF.out (fun g h1 h2=>h1 h2)).view
   injection e1 with e1 e2 e3;subst e1 e3
   obtain⟨g,of,rfl,hg,-,hcell⟩:=hc k (by simpa using hkn)
   clear hc e2
   rw[List.getElem?_map,List.getElem?_eq_getElem hkn,Option.map_some,Option.getD_some]at hcell
   have hca:=HOW.out.cellAt (off+k) (by omega)
   have hkx:off+k<X.length:=by omega
   rw[List.getElem?_map,List.getElem?_eq_getElem hkx,Option.map_some]at hca
   have hfr:=HOW.out.frozenAt (off+k)
   have hstep:=Lib.hid (HR.out.step BB_pos hd hn hkx)
   have hone:=one_place BB_pos (hd.getD BB_pos k) hn hcy (hdX.out.getD BB_pos (off+k))
   have hxb:=hd.getD BB_pos k
   rw[getD_lt hkn]at hone hxb
   rw[getD_lt hkx]at hone
   rw[getD_lt hkn,getD_lt hkx]at hstep
   generalize l[k]=x at hcell hone hstep hxb
   generalize X[off+k]=o at hca hone hstep
   have h1:mHi x n+sHi (mLo x n) cy<18446744073709551616:=hone.1
   have h2':mHi x n+sHi (mLo x n) cy+sHi o (sLo (mLo x n) cy)<18446744073709551616:=hone.2.1
   clear hone
   go_wp2_with (first
    |(go_at_call 142;((with_reducible refine(mul_named hxb hn _).mono ?_));rintro e w1 ⟨rfl,rfl⟩)
    |simp only[run_add0])
   go_round
   case rel=>
    exact⟨k+1,_,X.set (off+k) (sLo o (sLo (mLo x n) cy)),by go_num,rfl,hstep.out,hkn,by
     rw[List.map_set]
     exact(HOW.out.stored (off+k) _).1,HF.out.setCell (p:=⟨B,off+k,none⟩) rfl _⟩
   case measure=>simp[intOf];omega
  ·have hkl:k=l.length:=by omega
   subst hkl
   have hca:=HOW.out.cellAt (off+l.length) (by omega)
   have hkx:off+l.length<X.length:=by omega
   rw[List.getElem?_map,List.getElem?_eq_getElem hkx,Option.map_some]at hca
   have hfr:=HOW.out.frozenAt (off+l.length)
   go_wp2
   go_end0
   refine⟨rfl,X.set (off+l.length) cy,?_,HF.out.setCell (p:=⟨B,off+l.length,none⟩) rfl _,by rw[List.length_set,hXl,hX0],hdX.out.set _ hcy,fun j hj=>?_,HR.out.fin hkx⟩
   ·rw[List.map_set]
    exact(HOW.out.stored (off+l.length) _).1
   ·rw[List.getD_eq_getElem?_getD,List.getElem?_set_ne (by omega),←List.getD_eq_getElem?_getD]
    exact HR.out.above j (by omega)
end Go.Proofs.YtffaefjkpipjnaaGreatDoor
namespace Go.Proofs.YtffaefjkpipjnaaGreatDoor
set_option maxRecDepth 100000
open Go.RowKit
theorem val_zeros (B:Nat):∀(l:List Nat),(∀j,l.getD j 0=0)→val B l=0
 |[],_=>rfl
 |x::l,h=>by
  rw[val_cons,val_zeros B l (fun j=>by simpa using h (j+1)),show x=0 from by simpa using h 0];simp
theorem val_take_zeros (B:Nat) (l:List Nat) (k:Nat) (hk:k≤l.length) (h:∀j,k≤j→l.getD j 0=0):val B (l.take k)=val B l:=by
 rw[val_take_drop B l k hk,val_zeros B (l.drop k) (fun j=>by
  have:=h (k+j) (by omega)
  rw[List.getD_eq_getElem?_getD]at this⊢
  rw[List.getElem?_drop];exact this)]
 simp
theorem replicate_getD (n j:Nat):(List.replicate n 0).getD j 0=0:=by
 rw[List.getD_eq_getElem?_getD,List.getElem?_replicate];split<;>rfl
structure ProdRel (w:World) (B N:Nat) (l m:List Nat) (k:Nat) (X:List Nat) (wr:World):Prop where
 le:k≤m.length
 len:X.length=N
 dig:Dig BB X
 above:∀j,l.length+k≤j→X.getD j 0=0
 sum:val BB X=val BB l*val BB (m.take k)
 own:wr.ownsRow B 22 1 (.slice (some ⟨B,0,none⟩) N N) N (X.map L64)
 below:Below B w wr
theorem ProdRel.step {w wr wr':World}{B N:Nat}{l m X:List Nat}{k:Nat}(h:ProdRel w B N l m k X wr) (hk:k<m.length) (hN:l.length+m.length+1=N) (hB:w.heap.size=B)
 (hr:RowEnd wr B N k B l X (m.getD k 0) wr'):∃X',ProdRel w B N l m (k+1) X' wr':=by
 obtain⟨X',how,hfr,hl,hd,hab,hv⟩:=hr
 have hz:∀j,k+l.length+1≤j→X'.getD j 0=0:=fun j hj=>by rw[hab j hj];exact h.above j (by omega)
 refine⟨X',hk,by rw[hl,h.len],hd,fun j hj=>hz j (by omega),?_,how,h.below.trans (hfr.below (by rw[←hB];exact h.below.size) (fun g hg=>by omega))⟩
 have e1:=val_take_zeros BB X' (k+l.length+1) (by rw[hl,h.len];omega) hz
 have e2:=val_take_zeros BB X (k+l.length) (by rw[h.len];omega) (fun j hj=>h.above j (by omega))
 rw[←e1,hv,e2,h.sum,val_take_succ,Nat.mul_add,Nat.mul_left_comm]
set_option maxHeartbeats 400000 in
theorem product_any {w:World}{v u:Value}{l m:List Nat}(hl:RdN w v l) (hm:RdN w u m) (hdl:Dig BB l) (hdm:Dig BB m) (h1:l.length≤40000) (h2:m.length≤40000):
 Calls Tryz.prog 123 #[v,u] w (One w (digs BB (val BB l*val BB m))):=by
 obtain⟨a,c,rfl,hac,hc,-,-⟩:=hl.view
 obtain⟨b,d,rfl,hbc,hd,-,-⟩:=hm.view
 obtain⟨i0,hi,hz0,hz1,hz2⟩:=info_parts infoU
 have HL:=Lib.hid hl;have HM:=Lib.hid hm;clear hl hm
 obtain⟨n,hn,hn1⟩:∃n:Nat,((l.length:Int)+(m.length:Int)+1)=(n:Int)∧l.length+m.length+1=n:=⟨l.length+m.length+1,by omega,rfl⟩
 go_enter Tryz.func123,Tryz.ntmps123
 go_wp2_with (at_make;go_loud (refine wpList_make_full _ rfl (.tmp 13) (.tmp 13) 55 rfl w.heap.size 22 i0 (.int .u64 0) 1 Tryz.underlying55 hi hz0 hz1 .i64 .i64 n n n ?_ ?_ rfl rfl ?_ ?_ ?_ ?_;(any_goals (first|rfl|(rw[hz2];omega)|(unfold maxLen;omega)|(with_reducible exact Nat.le_refl _)));intro w0 hown0 hgrow0))
 rw[made_zero]at hown0
 go_loopw [17] (fun i wr=>∃(k:Nat) (X:List Nat),i= .int .i64 k∧ProdRel w w.heap.size n l m k X wr) (fun i _=>m.length-(intOf i).toNat)
 case atStart=>
  exact⟨0,List.replicate n 0,rfl,Nat.zero_le _,by simp,Dig.replicate BB_pos n,fun j _=>replicate_getD n j,by simp[val_replicate],hown0,(Below.refl _ _).grown hgrow0 (Nat.le_refl _) (by simp)⟩
 case round=>
  obtain⟨k,X,rfl,hp⟩:=hrel
  have HP:=Lib.hid hp
  have hB:=hp.below;have hXl:=hp.len;have hk:=hp.le
  clear hown0 hgrow0
  by_cases hkm:k<m.length
  ·have RM:=HM.out.below hB
   obtain⟨b1,d1,e1,-,-,-,hcell⟩:=RM.view
   injection e1 with e1 e2 e3;subst e1 e3
   obtain⟨g,of,rfl,hg,hcell⟩:=hcell k hkm
   clear e2
   rw[←List.getD_eq_getElem?_getD]at hcell
   have hx:=hdm.getD BB_pos k
   have HS:=Lib.hid (fun wr'=>hp.step (wr':=wr') hkm hn1 rfl)
   generalize m.getD k 0=x at hcell hx HS
   have HO:=hp.own
   rw[show n=k+(n-k)by omega]at HO
   have RL:=(Rd.mono HL.out (N':=fun g=>g≠w.heap.size) (fun g hg _=>Nat.ne_of_lt hg)).below hB
   have HC:=Lib.hid (row_any HO RL (by omega) (by omega) (by omega) hdl hp.dig hx)
   rw[show k+(n-k)=n by omega]at HC
   clear hp HO RL
   go_wp2_with (go_at_call 133;refine HC.out.mono ?_;rintro e w1 ⟨rfl,hr⟩;obtain⟨X1,hp1⟩:=HS.out w1 hr;clear hr)
   go_round
   case rel=>exact⟨k+1,X1,by go_num,hp1⟩
   case measure=>simp[intOf];omega
  ·have hkm':k=m.length:=by omega
   have E:strip X=digs BB (val BB l*val BB m):=by rw[strip_eq BB_two hp.dig,hp.sum,hkm',List.take_length]
   have RX:RdN _ _ X:=Rd.of_own hp.own (fun _ _=>trivial)
   clear hp
   go_wp2_with (go_at_call 75;refine(bare_any RX ?_).mono ?_;(focus omega);rintro e w3 ⟨v3,rfl,hr,hb3⟩)
   go_ret
   rw[E]at hr
   exact⟨_,rfl,hr,hB.trans (hb3.mono hB.size)⟩
end Go.Proofs.YtffaefjkpipjnaaGreatDoor
namespace Go.Proofs.YtffaefjkpipjnaaGreatDoor
set_option maxRecDepth 100000
open Go.RowKit
theorem BB_pow:BB=2^64:=by decide
theorem bits_num {w:World}{v:Value}{l:List Nat}(h:RdN w v l) (hd:Dig BB l) (hl:l.length≤100000):
 Calls Tryz.prog 48 #[v] w (fun e w'=>e= .returned (.int .i64 (bitN (val BB l):Nat))∧Below w.heap.size w w'):=by
 refine(bits_any h hd hl).mono ?_
 rintro e w' ⟨rfl,hb⟩
 refine⟨?_,hb⟩
 have:=bits_val (p:=64) (by omega) (l:=l) (by rw[←BB_pow];exact hd)
 rw[←BB_pow]at this
 rw[←this]
 by_cases hs:strip l=[]
 ·rw[if_pos hs,if_pos hs]
 ·rw[if_neg hs,if_neg hs,bitLen_bitN _ (by rw[←BB_pow];exact Dig.getD (by rw[strip_eq BB_two hd];exact dig_digs BB_two _) BB_pos _)]
def OneE (w:World) (r:Nat×Int) (e:Ending) (w':World):Prop:=
 ∃v,e= .returned (.tuple #[v,.int .i64 r.2])∧RdN w' v (digs BB r.1)∧Below w.heap.size w w'
theorem RdN.nil (w:World):RdN w (.slice none 0 0) []:=Rd.nil _ _
theorem RdN.nil0 (w:World):RdN w (.slice none 0 0) (digs BB 0):=by rw[digs_zero];exact Rd.nil _ _
theorem digs_short {n k:Nat}(h:bitN n≤64*k):(digs BB n).length≤k:=by
 rw[digs_length_le BB_two,BB_pow,←Nat.pow_mul]
 exact bitN_le.1 h
theorem digs_bits {n k:Nat}(h:(digs BB n).length≤k):bitN n≤64*k:=by
 rw[digs_length_le BB_two,BB_pow,←Nat.pow_mul]at h
 exact bitN_le.2 h
theorem len_ne {l:List Nat}(h:l≠[]):((l.length:Int)==0)=false:=by
 have:=List.length_pos_iff.2 h
 exact beq_eq_false_iff_ne.2 (by omega)
def mulR (A B:Nat):Nat×Int:=if A=0∨B=0 then(0,0)else if 65536<bitN A+bitN B then(0,2)else(A*B,0)
theorem bare_num {w:World}{v:Value}{l:List Nat}(h:RdN w v l) (hd:Dig BB l) (hl:l.length≤100000):
 Calls Tryz.prog 75 #[v] w (One w (digs BB (val BB l))):=by
 rw[←strip_eq BB_two hd];exact bare_any h hl
theorem digs_bound {n k:Nat}{l:List Nat}(hd:Dig BB l) (h:l.length≤k) (hn:n=val BB l):(digs BB n).length≤k:=by
 rw[hn,←strip_eq BB_two hd]
 exact Nat.le_trans (strip_length_le l) h
set_option maxHeartbeats 800000 in
theorem mul_any {w:World}{v u:Value}{l m:List Nat}(hl:RdN w v l) (hm:RdN w u m) (hdl:Dig BB l) (hdm:Dig BB m) (h1:l.length≤100000) (h2:m.length≤100000):
 Calls Tryz.prog 96 #[v,u] w (OneE w (mulR (val BB l) (val BB m))):=by
 have HA:=bare_num hl hdl h1
 have HB:=fun w' (hb:Below w.heap.size w w')=>bare_num (hm.below hb) hdm h2
 have la:=digs_bound hdl h1 rfl
 have lb:=digs_bound hdm h2 rfl
 generalize val BB l=A at HA la⊢
 generalize val BB m=B at HB lb⊢
 have HB:=Lib.hid HB
 have dA:=dig_digs BB_two A
 have dB:=dig_digs BB_two B
 have eA:=val_digs BB_two A
 have eB:=val_digs BB_two B
 have nA:=digs_nil_iff BB_two A
 have nB:=digs_nil_iff BB_two B
 clear hl hm hdl hdm h1 h2
 unfold mulR
 by_cases hA:A=0
 ·rw[if_pos (Or.inl hA)]
  rw[nA.2 hA]at HA
  clear nA nB eA eB dA dB
  go_enter Tryz.func96,Tryz.ntmps96
  go_wp2_with (first
   |(go_at_call 75;(with_reducible refine HA.mono ?_);rintro e w1 ⟨v1,rfl,hr,hb⟩;obtain⟨a,c,rfl,h2,h3,h4,hc⟩:=hr.view;clear hr hc)
   |(go_at_call 75;(with_reducible refine(HB.out _ hb).mono ?_);rintro e w2 ⟨v2,rfl,hr2,hb2⟩;obtain⟨a2,c2,rfl,k2,k3,k4,kc⟩:=hr2.view;clear hr2 kc))
  go_ret2
  exact⟨_,rfl,RdN.nil0 _,hb.trans (hb2.mono hb.size)⟩
 ·by_cases hB:B=0
  ·rw[if_pos (Or.inr hB)]
   have d0:(((digs BB A).length:Int)==0)=false:=by
    exact len_ne (fun h=>hA (nA.1 h))
   have HB:=fun w' hb=>HB.out w' hb
   rw[nB.2 hB]at HB
   have HB:=Lib.hid HB
   clear nA nB eA eB dA dB
   generalize digs BB A=s at*
   go_enter Tryz.func96,Tryz.ntmps96
   go_wp2_with (first
    |(go_at_call 75;(with_reducible refine HA.mono ?_);rintro e w1 ⟨v1,rfl,hr,hb⟩;obtain⟨a,c,rfl,h2,h3,h4,hc⟩:=hr.view;clear hr hc)
    |(go_at_call 75;(with_reducible refine(HB.out _ hb).mono ?_);rintro e w2 ⟨v2,rfl,hr2,hb2⟩;obtain⟨a2,c2,rfl,k2,k3,k4,kc⟩:=hr2.view;clear hr2 kc))
   go_ret2
   exact⟨_,rfl,RdN.nil0 _,hb.trans (hb2.mono hb.size)⟩
  ·have d0:(((digs BB A).length:Int)==0)=false:=by
    exact len_ne (fun h=>hA (nA.1 h))
   have d1:(((digs BB B).length:Int)==0)=false:=by
    exact len_ne (fun h=>hB (nB.1 h))
   rw[if_neg (by omega)]
   generalize hDA:digs BB A=s at*
   generalize hDB:digs BB B=t at*
   have gA:=digs_bits (n:=A) (by rw[hDA];exact la)
   have gB:=digs_bits (n:=B) (by rw[hDB];exact lb)
   have HP:=Lib.hid (fun(h:bitN A+bitN B≤65536) (w:World) v u (h1:RdN w v s) (h2:RdN w u t)=>product_any h1 h2 dA dB (by rw[←hDA];exact digs_short (by omega)) (by rw[←hDB];exact digs_short (by omega)))
   have HbA:=Lib.hid (fun(w:World) v (h1:RdN w v s)=>bits_num h1 dA la)
   have HbB:=Lib.hid (fun(w:World) v (h1:RdN w v t)=>bits_num h1 dB lb)
   rw[eA,eB]at HP;rw[eA]at HbA;rw[eB]at HbB
   clear nA nB eA eB dA dB hDA hDB
   by_cases hbig:65536<bitN A+bitN B
   ·rw[if_pos hbig]
    go_enter Tryz.func96,Tryz.ntmps96
    go_wp2_with (first
     |(go_at_call 75;(with_reducible refine HA.mono ?_);rintro e w1 ⟨v1,rfl,hr,hb⟩;obtain⟨a,c,rfl,h2,h3,h4,hc⟩:=hr.view;have hr:=Lib.hid hr;clear hc)
     |(go_at_call 75;(with_reducible refine(HB.out _ hb).mono ?_);rintro e w2 ⟨v2,rfl,hr2,hb2⟩;obtain⟨a2,c2,rfl,k2,k3,k4,kc⟩:=hr2.view;have hr2:=Lib.hid hr2;clear kc)
     |(go_at_call 48;(with_reducible refine(HbA.out _ _ (hr.out.below hb2)).mono ?_);rintro e w3 ⟨rfl,hb3⟩)
     |(go_at_call 48;(with_reducible refine(HbB.out _ _ (hr2.out.below hb3)).mono ?_);rintro e w4 ⟨rfl,hb4⟩))
    go_ret2
    have B2:=hb.trans (hb2.mono hb.size)
    have B3:=B2.trans (hb3.mono B2.size)
    exact⟨_,rfl,RdN.nil0 _,B3.trans (hb4.mono B3.size)⟩
   ·rw[if_neg hbig]
    have HP:=Lib.hid (HP.out (by omega))
    go_enter Tryz.func96,Tryz.ntmps96
    go_wp2_with (first
     |(go_at_call 75;(with_reducible refine HA.mono ?_);rintro e w1 ⟨v1,rfl,hr,hb⟩;obtain⟨a,c,rfl,h2,h3,h4,hc⟩:=hr.view;have hr:=Lib.hid hr;clear hc)
     |(go_at_call 75;(with_reducible refine(HB.out _ hb).mono ?_);rintro e w2 ⟨v2,rfl,hr2,hb2⟩;obtain⟨a2,c2,rfl,k2,k3,k4,kc⟩:=hr2.view;have hr2:=Lib.hid hr2;clear kc)
     |(go_at_call 48;(with_reducible refine(HbA.out _ _ (hr.out.below hb2)).mono ?_);rintro e w3 ⟨rfl,hb3⟩)
     |(go_at_call 48;(with_reducible refine(HbB.out _ _ (hr2.out.below hb3)).mono ?_);rintro e w4 ⟨rfl,hb4⟩)
     |(go_at_call 123;(with_reducible refine(HP.out _ _ _ ((hr.out.below hb2).below hb3|>.below hb4) ((hr2.out.below hb3).below hb4)).mono ?_);rintro e w5 ⟨v5,rfl,hr5,hb5⟩))
    go_ret2
    have B2:=hb.trans (hb2.mono hb.size)
    have B3:=B2.trans (hb3.mono B2.size)
    have B4:=B3.trans (hb4.mono B3.size)
    exact⟨_,rfl,hr5,B4.trans (hb5.mono B4.size)⟩
end Go.Proofs.YtffaefjkpipjnaaGreatDoor
namespace Go.Proofs.YtffaefjkpipjnaaGreatDoor
set_option maxRecDepth 100000
open Go.RowKit
theorem of_num {w:World}{n:Nat}(hn:n<BB):Calls Tryz.prog 101 #[L64 n] w (One w (digs BB n)):=by
 have e:=strip_eq BB_two (Dig.cons hn (Dig.nil BB))
 rw[val_one]at e
 rw[←e];exact of_any
theorem of_one {w:World}:Calls Tryz.prog 101 #[.int .u64 1] w (One w (digs BB 1)):=of_num (by decide)
set_option maxHeartbeats 400000 in
theorem times_any {w:World}{v:Value}{l:List Nat}{n:Nat}(hl:RdN w v l) (hdl:Dig BB l) (h1:l.length≤100000) (hn:n<BB):
 Calls Tryz.prog 110 #[v,L64 n] w (OneE w (mulR (val BB l) n)):=by
 have HO:=of_num (w:=w) hn
 have HM:=fun w1 (hb:Below w.heap.size w w1) u (hu:RdN w1 u (digs BB n))=>mul_any (hl.below hb) hu hdl (dig_digs BB_two n) h1 (digs_bound (l:=[n]) (Dig.cons hn (Dig.nil BB)) (k:=100000) (by simp) (val_one BB n).symm)
 rw[val_digs BB_two]at HM
 have HM:=Lib.hid HM
 clear hl
 go_enter Tryz.func110,Tryz.ntmps110
 go_wp2_with (first
  |(go_at_call 101;(with_reducible refine HO.mono ?_);rintro e w1 ⟨v1,rfl,hr,hb⟩)
  |(go_at_call 96;(with_reducible refine(HM.out _ hb _ hr).mono ?_);rintro e w2 ⟨v2,rfl,hr2,hb2⟩))
 go_ret2
 exact⟨_,rfl,hr2,hb.trans (hb2.mono hb.size)⟩
end Go.Proofs.YtffaefjkpipjnaaGreatDoor
namespace Go.Proofs.YtffaefjkpipjnaaGreatDoor
set_option maxRecDepth 100000
open Go.RowKit
theorem add_num {w:World}{v u:Value}{S:Nat}{m:List Nat}(hl:RdN w v (digs BB S)) (hm:RdN w u m) (hdm:Dig BB m) (h1:(digs BB S).length≤50000) (h2:m.length≤50000):
 Calls Tryz.prog 108 #[v,u] w (One w (digs BB (S+val BB m))):=by
 have:=add_any hl hm (dig_digs BB_two _) hdm h1 h2
 rw[val_digs BB_two]at this
 exact this
end Go.Proofs.YtffaefjkpipjnaaGreatDoor
