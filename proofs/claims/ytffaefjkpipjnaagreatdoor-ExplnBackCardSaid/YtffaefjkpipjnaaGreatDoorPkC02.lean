/- nat's first functions by their contracts: slices of limbs read as lists of naturals. Conditions: the lists are short. -/
import Derived.Test.YtffaefjkpipjnaaGreatDoorChecked
import Derived.Test.YtffaefjkpipjnaaGreatDoorPkC01
import Derived.KernelRfl
import Derived.WalkSpells
import Derived.WalkLawsBesides
import Derived.Outline
import Derived.Laws.Externs
namespace Go.Proofs.YtffaefjkpipjnaaGreatDoor
set_option maxRecDepth 100000
open Go.RowKit
abbrev L64 (x:Nat):Value:= .int .u64 (x:Int)
def BB:Nat:=18446744073709551616
def RdN (w:World) (v:Value) (l:List Nat):Prop:=Rd (fun _=>True) w v (l.map L64)
theorem RdN.below {w w':World}{v:Value}{l:List Nat}(h:RdN w v l) (hb:Below w.heap.size w w'):RdN w' v l:=Rd.below h hb
theorem RdN.view {w:World}{v:Value}{l:List Nat}(h:RdN w v l):∃a c,v= .slice a l.length c∧l.length≤c∧c≤9223372036854775807∧(a=none→c=0)∧∀j,j<l.length→∃g off,a=some ⟨g,off,none⟩∧g<w.heap.size∧w.cell? ⟨g,off+j,none⟩=some (L64 (l[j]?.getD 0)):=by
 obtain⟨a,c,h1,h2,h3,h4,h5⟩:=Rd.view h
 rw[List.length_map]at h1 h2 h5
 refine⟨a,c,h1,h2,by unfold maxLen at h3;omega,h4,fun j hj=>?_⟩
 obtain⟨g,off,e1,_,e2,e3⟩:=h5 j hj
 exact⟨g,off,e1,e2,by rw[e3,List.getElem?_map,List.getElem?_eq_getElem hj];rfl⟩
theorem infoU:(Tryz.prog.info? 22).map (fun i=>(i.zero,i.size,i.bytes))=some (some (.int .u64 0),1,8):=by kernel_rfl
def One (w:World) (l:List Nat) (e:Ending) (w':World):Prop:=∃v,e= .returned v∧RdN w' v l∧Below w.heap.size w w'
theorem clone_any {w:World}{v:Value}{l:List Nat}(h:RdN w v l) (hl:l.length≤100000):
 Calls Tryz.prog 113 #[v] w (One w l):=by
 obtain⟨i0,hi,hz0,hz1,hz2⟩:=info_parts infoU
 obtain⟨a,c,rfl,h2,h3,h4,-⟩:=h.view
 have he:=fun(wx:World) (a:Option Addr) (n c:Nat)=>Lib.run_eql_slice_nil (P:=Tryz.prog) wx 55 22 a n c 0 0 Tryz.underlying55
 cases a with
 |none=>
  obtain rfl:c=0:=h4 rfl
  have hl0:l=[]:=List.eq_nil_of_length_eq_zero (by omega)
  subst hl0
  clear h
  go_enter Tryz.func113,Tryz.ntmps113
  go_wp2
  go_ret
  exact⟨_,rfl,Rd.nil _ _,Below.refl _ _⟩
 |some ad=>
  have H:=Lib.hid h;clear h
  go_enter Tryz.func113,Tryz.ntmps113
  go_wp2_with (at_builtin;refine wpList_append_rd (N:=fun _=>True) (xs:=[]) (ys:=l.map L64) (n:=0) rfl (.tmp 5) (.tmp 6) 55 rfl w.heap.size 22 i0 (.int .u64 0) 8 Tryz.underlying55 hi hz0 hz1 hz2 rfl rfl rfl (own_zero (heap_alloc_new _ _) (Nat.le_refl _)) (H.out.keep (S:=fun _=>False) ((Fr.refl _ _).alloc _) (fun _ _ h=>h)) (by simp[Value.oneCell']) (by simp[maxLen];omega) (by simp;omega) (by simp) ?_;intro v1 w1 own1 hg1)
  go_ret
  exact⟨_,rfl,Rd.of_own own1 (fun _ _=>trivial),((Below.refl _ _).alloc (Nat.le_refl _) _).grown hg1 (by simp) (fun k hk=>by simp[Value.ownBlock,Act.eval]at hk;omega)⟩
theorem rd_take {w:World}{a:Option Addr}{n c k:Nat}{l:List Nat}(h:RdN w (.slice a n c) l) (hk:k≤l.length):RdN w (.slice a k c) (l.take k):=by
 obtain⟨a',c',e,h2,h3,h4,h5⟩:=h
 rw[List.length_map]at e h2
 simp only[Value.slice.injEq]at e
 obtain⟨rfl,rfl,rfl⟩:=e
 refine⟨a,c,by rw[List.length_map,List.length_take,Nat.min_eq_left hk],by rw[List.length_map,List.length_take];omega,h3,h4,fun j u hj=>?_⟩
 have hjk:j<k:=by
  have:=(List.getElem?_eq_some_iff.1 hj).1
  rw[List.length_map,List.length_take]at this;omega
 rw[List.getElem?_map,List.getElem?_take_of_lt hjk,←List.getElem?_map]at hj
 exact h5 j u hj
def BareRel (l:List Nat) (k:Nat):Prop:=k≤l.length∧∀j,k≤j→l.getD j 0=0
set_option maxHeartbeats 400000 in
theorem bare_any {w:World}{v:Value}{l:List Nat}(h:RdN w v l) (hl:l.length≤100000):
 Calls Tryz.prog 75 #[v] w (One w (strip l)):=by
 obtain⟨a,c,rfl,h2,h3,h4,hc⟩:=h.view
 have H:=Lib.hid h;have HC:=Lib.hid hc;clear h hc
 go_enter Tryz.func75,Tryz.ntmps75
 go_wp2
 go_loop [3] (fun n=>∃k:Nat,n= .int .i64 k∧BareRel l k) (fun n=>(intOf n).toNat)
 case atStart=>exact⟨l.length,rfl,Nat.le_refl _,fun j hj=>by simp[List.getElem?_eq_none hj]⟩
 case round=>
  obtain⟨k,rfl,hk,hz⟩:=hrel
  have HZ:=Lib.hid hz;clear hz
  have fin:k=0∨l.getD (k-1) 0≠0→strip l=l.take k:=fun hor=>by
   rw[←strip_take l k HZ.out]
   refine strip_self _ ?_
   rcases hor with rfl|hne
   ·exact .inl rfl
   ·by_cases hk0:k=0
    ·subst hk0;exact .inl rfl
    ·refine .inr ?_
     rw[List.length_take,Nat.min_eq_left hk]
     simpa[List.getD_eq_getElem?_getD,List.getElem?_take_of_lt (show k-1<k by omega)]using hne
  have FIN:=Lib.hid fin;clear fin
  by_cases hk0:k=0
  ·subst hk0
   have d0:decide ((0:Int)<((0:Nat):Int))=false:=by simp
   go_wp2_with (go_at_call 113;refine(clone_any (rd_take H.out hk) (by simp)).mono ?_;rintro e w1 ⟨v1,rfl,hr,hb⟩)
   go_ret
   have E:=FIN.out (by simp)
   exact⟨_,rfl,by rw[E];exact hr,hb⟩
  ·have d0:decide ((0:Int)<(k:Int))=true:=decide_eq_true (by omega)
   obtain⟨g,off,rfl,hg,hcell⟩:=HC.out (k-1) (by omega)
   have hcell':w.cell? ⟨g,off+(k-1),none⟩=some (L64 (l.getD (k-1) 0)):=by rw[hcell,List.getD_eq_getElem?_getD]
   clear hcell
   generalize hx:l.getD (k-1) 0=x at hcell'
   have HX:=Lib.hid hx;clear hx
   by_cases hx0:x=0
   ·subst hx0
    go_wp2_with fail
    go_round
    case rel=>exact⟨k-1,by go_num,by omega,fun j hj=>by
     by_cases hjk:j=k-1
     ·rw[hjk];exact HX.out
     ·exact HZ.out j (by omega)⟩
    case measure=>simp[intOf];omega
   ·have dx:((x:Int)==0)=false:=by simp;omega
    go_wp2_with (go_at_call 113;refine(clone_any (rd_take H.out hk) (by simp;omega)).mono ?_;rintro e w1 ⟨v1,rfl,hr,hb⟩)
    go_ret
    exact⟨_,rfl,by rw[FIN.out (.inr (by rw[HX.out];exact hx0))];exact hr,hb⟩
end Go.Proofs.YtffaefjkpipjnaaGreatDoor
namespace Go.Proofs.YtffaefjkpipjnaaGreatDoor
set_option maxRecDepth 100000
open Go.RowKit
theorem BB_two:2≤BB:=by decide
theorem BB_pos:0<BB:=by decide
set_option maxHeartbeats 400000 in
theorem of_any {w:World}{n:Nat}:Calls Tryz.prog 101 #[L64 n] w (One w (strip [n])):=by
 go_enter Tryz.func101,Tryz.ntmps101
 go_wp2_with (go_at_call 75;refine(bare_any (show RdN _ _ [n]from rd_one (heap_alloc_new _ _) trivial) (by simp)).mono ?_;rintro e w1 ⟨v1,rfl,hr,hb⟩)
 go_ret
 exact⟨_,rfl,hr,((Below.refl _ _).alloc (Nat.le_refl _) _).trans (hb.mono (by simp))⟩
set_option maxHeartbeats 400000 in
theorem limb_any {w:World}{v:Value}{l:List Nat}(h:RdN w v l) {i:Int}(hi:i≤9223372036854775807) (hi': -9223372036854775808≤i):
 Calls Tryz.prog 126 #[v,.int .i64 i] w (fun e w'=>e= .returned (L64 (if i<0 then 0 else l.getD i.toNat 0))∧w'=w):=by
 obtain⟨a,c,rfl,h2,h3,h4,hc⟩:=h.view
 have H:=Lib.hid h;have HC:=Lib.hid hc;clear h hc
 go_enter Tryz.func126,Tryz.ntmps126
 by_cases h0:i<0
 ·have d0:decide (i<0)=true:=decide_eq_true h0
  rw[if_pos h0]
  clear h0
  go_wp2
  go_ret
  exact⟨rfl,rfl⟩
 ·obtain⟨k,rfl⟩:∃k:Nat,i=(k:Int):=⟨i.toNat,by omega⟩
  have d0:decide ((k:Int)<0)=false:=decide_eq_false h0
  rw[if_neg h0]
  clear h0 hi'
  by_cases h1:l.length≤k
  ·have d1:decide (l.length≤k)=true:=decide_eq_true h1
   have e:l.getD k 0=0:=by simp[List.getElem?_eq_none h1]
   clear h1
   go_wp2
   go_ret
   exact⟨by show Ending.returned (L64 0)=Ending.returned (L64 (l.getD k 0));rw[e],rfl⟩
  ·have d1:decide (l.length≤k)=false:=decide_eq_false h1
   obtain⟨g,off,rfl,hg,hcell⟩:=HC.out k (by omega)
   have hcell':w.cell? ⟨g,off+k,none⟩=some (L64 (l.getD k 0)):=by rw[hcell,List.getD_eq_getElem?_getD]
   clear hcell
   rw[show((k:Int)).toNat=k from rfl]
   generalize l.getD k 0=x at hcell'⊢
   go_wp2
   go_ret
   exact⟨rfl,rfl⟩
theorem limb_nat {w:World}{v:Value}{l:List Nat}(h:RdN w v l) {k:Nat}(hk:k≤9223372036854775807):
 Calls Tryz.prog 126 #[v,.int .i64 k] w (fun e w'=>e= .returned (L64 (l.getD k 0))∧w'=w):=by
 have:=limb_any h (i:=(k:Int)) (by omega) (by omega)
 rwa [if_neg (by omega),show((k:Int)).toNat=k from rfl]at this
set_option maxHeartbeats 400000 in
theorem small_any {w:World}{v:Value}{l:List Nat}(h:RdN w v l) (hl:l.length≤100000):
 Calls Tryz.prog 95 #[v] w (fun e w'=>e= .returned (.tuple #[L64 (if(strip l).length≤1 then(strip l).getD 0 0 else 0),.bool (decide ((strip l).length≤1))])∧Below w.heap.size w w'):=by
 have HB:=bare_any h hl
 clear h
 generalize strip l=s at HB⊢
 match s,HB with
 |[],HB=>
  go_enter Tryz.func95,Tryz.ntmps95
  go_wp2_with (go_at_call 75;refine HB.mono ?_;rintro e w1 ⟨v1,rfl,hr,hb⟩;obtain⟨a,c,rfl,h2,h3,h4,hc⟩:=hr.view;clear hr hc)
  go_ret2
  exact⟨by simp,hb⟩
 |[x],HB=>
  go_enter Tryz.func95,Tryz.ntmps95
  go_wp2_with (go_at_call 75;refine HB.mono ?_;rintro e w1 ⟨v1,rfl,hr,hb⟩;obtain⟨a,c,rfl,h2,h3,h4,hc⟩:=hr.view;obtain⟨g,off,rfl,hg,hcell⟩:=hc 0 (by simp);have hcell':w1.cell? ⟨g,off,none⟩=some (L64 x):=hcell;clear hr hc hcell)
  go_ret2
  exact⟨by simp,hb⟩
 |x::y::t,HB=>
  have d0:(((x::y::t).length:Int)==0)=false:=by simp;omega
  have d1:(((x::y::t).length:Int)==1)=false:=by simp;omega
  go_enter Tryz.func95,Tryz.ntmps95
  go_wp2_with (go_at_call 75;refine HB.mono ?_;rintro e w1 ⟨v1,rfl,hr,hb⟩;obtain⟨a,c,rfl,h2,h3,h4,hc⟩:=hr.view;clear hr hc)
  go_ret2
  exact⟨by simp,hb⟩
end Go.Proofs.YtffaefjkpipjnaaGreatDoor
namespace Go.Proofs.YtffaefjkpipjnaaGreatDoor
set_option maxRecDepth 100000
open Go.RowKit
theorem run_add (x y c:Nat) (hc:c≤1) (w:World):
 (callFunc 130 #[.int .u64 x,.int .u64 y,.int .u64 c]).run Tryz.prog w=
   .ok (.value (.tuple #[.int .u64 (((x+y+c)%18446744073709551616:Nat):Int),.int .u64 (((x+y+c)/18446744073709551616:Nat):Int)])) w:=by
 rw[run_callFunc_extern Tryz.func130 (by kernel_rfl) (by kernel_rfl) (by kernel_rfl) (e:=add64Entry) (by kernel_rfl),run_add64 x y c (by omega) (by omega) (by omega) (by omega)]
 simp only[Result.andThen]
 congr 5<;>omega
theorem made_zero (n:Nat):(madeCells (Value.int .u64 0).cells (n*1)).toList=(List.replicate n 0).map L64:=by
 rw[List.map_replicate]
 simp[madeCells,Value.cells,Nat.mod_one]
 exact List.ext_getElem (by simp) (by simp)
def AddRel (w:World) (B n:Nat) (l m:List Nat) (k cy:Nat) (X:List Nat) (wr:World):Prop:=
 k≤n∧cy≤1∧X.length=n∧Dig BB X∧val BB (X.take k)+BB^k*cy=val BB (l.take k)+val BB (m.take k)∧
 wr.ownsRow w.heap.size 22 1 (.slice (some ⟨B,0,none⟩) n n) n (X.map L64)∧Below w.heap.size w wr
theorem AddRel.step {w:World}{n:Nat}{l m:List Nat}{k cy:Nat}{X:List Nat}{wr:World}(hl:Dig BB l) (hm:Dig BB m) (h:AddRel w w.heap.size n l m k cy X wr) (hkn:k<n):
 AddRel w w.heap.size n l m (k+1) ((l.getD k 0+m.getD k 0+cy)/BB) (X.set k ((l.getD k 0+m.getD k 0+cy)%BB)) (wr.setCell ⟨w.heap.size,k,none⟩ (L64 ((l.getD k 0+m.getD k 0+cy)%BB))):=by
 obtain⟨hk,hcy,hX,hd,hv,how,hB⟩:=h
 have a1:=hl.getD BB_pos k
 have a2:=hm.getD BB_pos k
 have hx:(l.getD k 0+m.getD k 0+cy)%BB<BB:=Nat.mod_lt _ BB_pos
 have hq:(l.getD k 0+m.getD k 0+cy)/BB≤1:=by
  rw[Nat.div_le_iff_le_mul_add_pred BB_pos];omega
 refine⟨hkn,hq,by simpa using hX,hd.set k hx,?_,?_,hB.setCell (Nat.le_refl _) _⟩
 ·rw[val_set_take BB X k _ (by omega),val_take_succ,val_take_succ]
  have e:=Nat.mod_add_div (l.getD k 0+m.getD k 0+cy) BB
  have e2:BB^k*((l.getD k 0+m.getD k 0+cy)%BB)+BB^(k+1)*((l.getD k 0+m.getD k 0+cy)/BB)=BB^k*(l.getD k 0)+BB^k*(m.getD k 0)+BB^k*cy:=by
   rw[Nat.pow_succ,Nat.mul_assoc,←Nat.mul_add,e,Nat.mul_add,Nat.mul_add]
  omega
 ·rw[List.map_set]
  exact(how.stored k _).1
theorem add_top {b:Nat}(hb:2≤b) {l m X:List Nat}{p cy:Nat}(hl:Dig b l) (hm:Dig b m) (h1:l.length≤p) (h2:m.length≤p) (hv:val b X+b^(p+1)*cy=val b l+val b m) (hcy:cy≤1):
 val b X=val b l+val b m:=by
 have b1:=val_lt hl
 have b2:=val_lt hm
 have c1:b^l.length≤b^p:=Nat.pow_le_pow_right (by omega) h1
 have c2:b^m.length≤b^p:=Nat.pow_le_pow_right (by omega) h2
 have c3:b^(p+1)=b^p*b:=Nat.pow_succ ..
 have c4:b^p*2≤b^p*b:=Nat.mul_le_mul_left _ hb
 rcases(by omega:cy=0∨cy=1)with h|h
 ·subst h;simpa using hv
 ·subst h;omega
theorem AddRel.fin {w:World}{n:Nat}{l m:List Nat}{cy:Nat}{X:List Nat}{wr:World}(hl:Dig BB l) (hm:Dig BB m) (h:AddRel w w.heap.size n l m n cy X wr) (h1:l.length<n) (h2:m.length<n):
 strip X=digs BB (val BB l+val BB m):=by
 obtain⟨hk,hcy,hX,hd,hv,how,hB⟩:=h
 rw[val_take_ge BB X n (by omega),val_take_ge BB l n (by omega),val_take_ge BB m n (by omega)]at hv
 rw[strip_eq BB_two hd,add_top (p:=n-1) BB_two hl hm (by omega) (by omega) (by rw[show n-1+1=n by omega];exact hv) hcy]
set_option maxHeartbeats 400000 in
theorem add_any {w:World}{v u:Value}{l m:List Nat}(hl:RdN w v l) (hm:RdN w u m) (hdl:Dig BB l) (hdm:Dig BB m) (h1:l.length≤50000) (h2:m.length≤50000):
 Calls Tryz.prog 108 #[v,u] w (One w (digs BB (val BB l+val BB m))):=by
 obtain⟨a,c,rfl,hac,hc,-,-⟩:=hl.view
 obtain⟨b,d,rfl,hbc,hd,-,-⟩:=hm.view
 obtain⟨i0,hi,hz0,hz1,hz2⟩:=info_parts infoU
 have HL:=Lib.hid hl;have HM:=Lib.hid hm;clear hl hm
 obtain⟨n,hn,hn1,hn2,hn3⟩:∃n:Nat,((if l.length<m.length then(m.length:Int)else(l.length:Int))+1)=(n:Int)∧l.length<n∧m.length<n∧n≤50001:=
  ⟨(if l.length<m.length then m.length else l.length)+1,by split<;>simp,by split<;>omega,by split<;>omega,by split<;>omega⟩
 go_enter Tryz.func108,Tryz.ntmps108
 go_wp2_with (at_make;go_loud (refine wpList_make_full _ rfl (.tmp 13) (.tmp 13) 55 rfl w.heap.size 22 i0 (.int .u64 0) 1 Tryz.underlying55 hi hz0 hz1 .i64 .i64 n n n ?_ ?_ rfl rfl ?_ ?_ ?_ ?_;(any_goals (first|rfl|(rw[hz2];omega)|(unfold maxLen;omega)|(with_reducible exact Nat.le_refl _)));intro w0 hown0 hgrow0))
 all_goals
  go_loopw [17,6] (fun i cy wr=>∃(k cy':Nat) (X:List Nat),i= .int .i64 k∧cy=L64 cy'∧AddRel w w.heap.size n l m k cy' X wr) (fun i _ _=>n-(intOf i).toNat)
  case atStart=>
   refine⟨0,0,List.replicate n 0,rfl,rfl,Nat.zero_le _,by omega,by simp,Dig.replicate BB_pos n,by simp,?_,(Below.refl _ _).grown hgrow0 (Nat.le_refl _) (by simp)⟩
   rw[←made_zero]
   exact hown0
  case round=>
   obtain⟨k,cy,X,rfl,rfl,hk,hcy,hX,hd,hv,how,hB⟩:=hrel
   have HR:=Lib.hid (show AddRel w w.heap.size n l m k cy X _ from⟨hk,hcy,hX,hd,hv,how,hB⟩);have HOW:=Lib.hid how;have HV:=Lib.hid hv;have HD:=Lib.hid hd
   clear how hv hd hown0 hgrow0
   by_cases hkn:k<n
   ·have RL:=HL.out.below hB
    have RM:=HM.out.below hB
    have hca:=HOW.out.cellAt k (by omega)
    rw[List.getElem?_map,List.getElem?_eq_getElem (by omega),Option.map_some]at hca
    have hfr:=HOW.out.frozenAt k
    generalize X[k]=x0 at hca
    have hstep:∀A C cy:Nat,val BB (X.take k)+BB^k*cy=val BB (l.take k)+val BB (m.take k)→True:=fun _ _ _ _=>trivial
    clear hstep
    go_wp2_with (first
     |(go_at_call 126;((with_reducible refine(limb_nat RL ?_).mono ?_));(focus omega);rintro e w1 ⟨rfl,rfl⟩)
     |(go_at_call 126;((with_reducible refine(limb_nat RM ?_).mono ?_));(focus omega);rintro e w2 ⟨rfl,rfl⟩)
     |simp only[run_add _ _ _ hcy])
    go_round
    case rel=>
     exact⟨k+1,(l.getD k 0+m.getD k 0+cy)/BB,X.set k ((l.getD k 0+m.getD k 0+cy)%BB),by go_num,by simp[BB],by
      have:=AddRel.step hdl hdm HR.out hkn
      simpa[BB,L64,Int.natCast_emod,Int.natCast_add]using this⟩
    case measure=>simp[intOf];omega
   ·have hkn':k=n:=by omega
    have E:=AddRel.fin hdl hdm (by rw[hkn']at HR;exact HR.out) hn1 hn2
    have RX:RdN _ _ X:=Rd.of_own HOW.out (fun _ _=>trivial)
    go_wp2_with (go_at_call 75;refine(bare_any RX ?_).mono ?_;(focus omega);rintro e w3 ⟨v3,rfl,hr,hb3⟩)
    go_ret
    rw[E]at hr
    exact⟨_,rfl,hr,hB.trans (hb3.mono hB.size)⟩
end Go.Proofs.YtffaefjkpipjnaaGreatDoor
