/- The document's numbers (digits to the base 65536): Norm, To, Num by their contracts. Conditions: the lists are short, the digits are digits. -/
import Derived.Test.YtffaefjkpipjnaaGreatDoorPkC04
import Derived.BigQuiet
import Derived.Deep.QuietTactic
import Derived.StillTailTactics
import Derived.ProofKit
import Derived.Test.YtffaefjkpipjnaaGreatDoorPkC01
import Derived.Shelf.Small.Bits
namespace Go.Proofs.YtffaefjkpipjnaaGreatDoor
set_option maxRecDepth 100000
open Go.RowKit
abbrev D32 (x:Nat):Value:= .int .u32 (x:Int)
def DD:Nat:=65536
theorem DD_two:2≤DD:=by decide
theorem DD_pos:0<DD:=by decide
theorem DD_pow:DD=2^16:=by decide
def RdD (w:World) (v:Value) (l:List Nat):Prop:=Rd (fun _=>True) w v (l.map D32)
theorem RdD.below {w w':World}{v:Value}{l:List Nat}(h:RdD w v l) (hb:Below w.heap.size w w'):RdD w' v l:=Rd.below h hb
theorem RdD.view {w:World}{v:Value}{l:List Nat}(h:RdD w v l):∃a c,v= .slice a l.length c∧l.length≤c∧c≤9223372036854775807∧(a=none→c=0)∧∀j,j<l.length→∃g off,a=some ⟨g,off,none⟩∧g<w.heap.size∧w.cell? ⟨g,off+j,none⟩=some (D32 (l[j]?.getD 0)):=by
 obtain⟨a,c,h1,h2,h3,h4,h5⟩:=Rd.view h
 rw[List.length_map]at h1 h2 h5
 refine⟨a,c,h1,h2,by unfold maxLen at h3;omega,h4,fun j hj=>?_⟩
 obtain⟨g,off,e1,_,e2,e3⟩:=h5 j hj
 exact⟨g,off,e1,e2,by rw[e3,List.getElem?_map,List.getElem?_eq_getElem hj];rfl⟩
theorem infoD:(Tryz.prog.info? 83).map (fun i=>(i.zero,i.size,i.bytes))=some (some (.int .u32 0),1,4):=by kernel_rfl
def OneD (w:World) (l:List Nat) (e:Ending) (w':World):Prop:=∃v,e= .returned v∧RdD w' v l∧Below w.heap.size w w'
theorem one32 (l:List Nat):∀u∈l.map D32,u.oneCell'=true:=by
 intro u hu
 obtain⟨x,-,rfl⟩:=List.mem_map.1 hu
 rfl
theorem rdD_take {w:World}{a:Option Addr}{n c k:Nat}{l:List Nat}(h:RdD w (.slice a n c) l) (hk:k≤l.length):RdD w (.slice a k c) (l.take k):=by
 obtain⟨a',c',e,h2,h3,h4,h5⟩:=h
 rw[List.length_map]at e h2
 simp only[Value.slice.injEq]at e
 obtain⟨rfl,rfl,rfl⟩:=e
 refine⟨a,c,by rw[List.length_map,List.length_take,Nat.min_eq_left hk],by rw[List.length_map,List.length_take];omega,h3,h4,fun j u hj=>?_⟩
 have hjk:j<k:=by
  have:=(List.getElem?_eq_some_iff.1 hj).1
  rw[List.length_map,List.length_take]at this;omega
 rw[List.getElem?_map,List.getElem?_take_of_lt hjk,←List.getElem?_map]at hj
 exact h5 j u hj
theorem bare_fin {l:List Nat}{k:Nat}(hk:k≤l.length) (hz:∀j,k≤j→l.getD j 0=0) (hor:k=0∨l.getD (k-1) 0≠0):l.take k=strip l:=by
 rw[←strip_take l k hz]
 refine(strip_self _ ?_).symm
 rcases hor with rfl|hne
 ·exact .inl rfl
 ·by_cases hk0:k=0
  ·subst hk0;exact .inl rfl
  ·refine .inr ?_
   rw[List.length_take,Nat.min_eq_left hk]
   simpa[List.getD_eq_getElem?_getD,List.getElem?_take_of_lt (show k-1<k by omega)]using hne
set_option maxHeartbeats 400000 in
theorem norm_any {w:World}{v:Value}{l:List Nat}(h:RdD w v l) (hl:l.length≤1000000):
 Calls Tryz.prog 72 #[v] w (OneD w (strip l)):=by
 obtain⟨i0,hi,hz0,hz1,hz2⟩:=info_parts infoD
 obtain⟨a,c,rfl,h2,h3,h4,hc⟩:=h.view
 have H:=Lib.hid h;have HC:=Lib.hid hc;clear h hc
 go_enter Tryz.func72,Tryz.ntmps72
 go_wp2
 go_loop [3] (fun n=>∃k:Nat,n= .int .i64 k∧BareRel l k) (fun n=>(intOf n).toNat)
 case atStart=>exact⟨l.length,rfl,Nat.le_refl _,fun j hj=>by simp[List.getElem?_eq_none hj]⟩
 case round=>
  obtain⟨k,rfl,hk,hz⟩:=hrel
  have HZ:=Lib.hid hz
  have FIN:=Lib.hid (bare_fin hk hz);clear hz
  have hKL:(l.take k).length=k:=by rw[List.length_take];omega
  have RT:=Lib.hid (rdD_take H.out hk)
  by_cases hk0:k=0
  ·have E:=FIN.out (.inl hk0)
   subst hk0
   have d0:decide ((0:Int)<((0:Nat):Int))=false:=by simp
   go_wp2_with (at_builtin;refine wpList_append_rd (N:=fun _=>True) (xs:=[]) (ys:=(l.take 0).map D32) (n:=0) rfl (.tmp 18) (.tmp 21) 25 rfl w.heap.size 83 i0 (.int .u32 0) 4 Tryz.underlying25 hi hz0 hz1 hz2 rfl rfl rfl (own_zero (heap_alloc_new _ _) (Nat.le_refl _)) (RT.out.keep (S:=fun _=>False) ((Fr.refl _ _).alloc _) (fun _ _ h=>h)) (one32 _) (by rw[List.length_map,hKL];unfold maxLen;omega) (by rw[List.length_map,hKL];omega) (by simp) ?_;intro v1 w1 own1 hg1)
   go_ret
   exact⟨_,rfl,by rw[←E];exact Rd.of_own own1 (fun _ _=>trivial),((Below.refl _ _).alloc (Nat.le_refl _) _).grown hg1 (by simp) (fun k hk=>by simp[Value.ownBlock,Act.eval]at hk;omega)⟩
  ·have d0:decide ((0:Int)<(k:Int))=true:=decide_eq_true (by omega)
   obtain⟨g,off,rfl,hg,hcell⟩:=HC.out (k-1) (by omega)
   have hcell':w.cell? ⟨g,off+(k-1),none⟩=some (D32 (l.getD (k-1) 0)):=by rw[hcell,List.getD_eq_getElem?_getD]
   clear hcell
   generalize hx:l.getD (k-1) 0=x at hcell'
   have HX:=Lib.hid hx;clear hx
   by_cases hx0:x=0
   ·subst hx0
    go_wp2_with fail
    go_round
    case rel=>exact⟨k-1,by go_num,by omega,fun j hj=>by
     by_cases hjk:j=k-1
     ·rw[hjk];exact HX.out
     ·exact HZ.out j (by omega)⟩
    case measure=>simp[intOf];omega
   ·have dx:((x:Int)==0)=false:=by simp;omega
    go_wp2_with (at_builtin;refine wpList_append_rd (N:=fun _=>True) (xs:=[]) (ys:=(l.take k).map D32) (n:=0) rfl (.tmp 18) (.tmp 21) 25 rfl w.heap.size 83 i0 (.int .u32 0) 4 Tryz.underlying25 hi hz0 hz1 hz2 rfl rfl rfl (own_zero (heap_alloc_new _ _) (Nat.le_refl _)) (RT.out.keep (S:=fun _=>False) ((Fr.refl _ _).alloc _) (fun _ _ h=>h)) (one32 _) (by rw[List.length_map,hKL];unfold maxLen;omega) (by rw[List.length_map,hKL];omega) (by simp) ?_;intro v1 w1 own1 hg1)
    go_ret
    exact⟨_,rfl,by rw[←FIN.out (.inr (by rw[HX.out];exact hx0))];exact Rd.of_own own1 (fun _ _=>trivial),((Below.refl _ _).alloc (Nat.le_refl _) _).grown hg1 (by simp) (fun k hk=>by simp[Value.ownBlock,Act.eval]at hk;omega)⟩
theorem BB_DD:BB=DD^4:=by decide
structure ToOwn (w:World) (X:List Nat) (v:Value) (wr:World):Prop where
 dig:Dig DD X
 own:wr.ownsRow w.heap.size 83 1 v X.length (X.map D32)
 below:Below w.heap.size w wr
structure ToOut (w:World) (l:List Nat) (k:Nat) (X:List Nat) (v:Value) (wr:World):Prop extends ToOwn w X v wr where
 le:k≤l.length
 len:X.length=4*k
 sum:val DD X=val BB (l.take k)
structure ToIn (w:World) (l:List Nat) (k j x:Nat) (X:List Nat) (v:Value) (wr:World):Prop extends ToOwn w X v wr where
 le:j≤4
 len:X.length=4*k+j
 small:x<DD^(4-j)
 sum:val DD X+DD^(4*k+j)*x=val BB (l.take (k+1))
theorem ToOut.start {w wr:World}{l:List Nat}{k:Nat}{X:List Nat}{v:Value}(h:ToOut w l k X v wr) (hd:Dig BB l):ToIn w l k 0 (l.getD k 0) X v wr:=
 ⟨h.toToOwn,by omega,h.len,by have:=hd.getD BB_pos k;rw[BB_DD]at this;exact this,by
   rw[h.sum,val_take_succ,Nat.add_zero,Nat.pow_mul,←BB_DD]⟩
theorem ToIn.step {w wr wr':World}{l:List Nat}{k j x:Nat}{X:List Nat}{v v':Value}(h:ToIn w l k j x X v wr) (hj:j<4)
 (ho:wr'.ownsRow w.heap.size 83 1 v' (X.length+1) (X.map D32++[D32 (x%DD)])) (hb:Below w.heap.size w wr'):ToIn w l k (j+1) (x/DD) (X++[x%DD]) v' wr':=
 ⟨⟨h.dig.append (Dig.cons (Nat.mod_lt _ DD_pos) (Dig.nil _)),by rw[List.length_append,List.map_append];exact ho,hb⟩,hj,by rw[List.length_append,h.len];rfl,by
   have:=h.small
   rw[show 4-j=4-(j+1)+1 by omega,Nat.pow_succ]at this
   exact(Nat.div_lt_iff_lt_mul DD_pos).2 this,by
   rw[←h.sum,val_append,val_one,h.len,←Nat.add_assoc (4*k),Nat.pow_succ,Nat.mul_assoc,Nat.add_assoc,←Nat.mul_add,Nat.mod_add_div]⟩
theorem ToIn.bound {w wr:World}{l:List Nat}{k j x:Nat}{X:List Nat}{v:Value}(h:ToIn w l k j x X v wr):x<BB:=by
 rw[BB_DD];exact Nat.lt_of_lt_of_le h.small (Nat.pow_le_pow_right DD_pos (by omega))
theorem ToIn.fin {w wr:World}{l:List Nat}{k x:Nat}{X:List Nat}{v:Value}(h:ToIn w l k 4 x X v wr) (hk:k<l.length):ToOut w l (k+1) X v wr:=
 ⟨h.toToOwn,hk,by rw[h.len];omega,by
   have h1:x<DD^0:=h.small
   have h2:x=0:=by rw[Nat.pow_zero]at h1;omega
   rw[←h.sum,h2,Nat.mul_zero,Nat.add_zero]⟩
set_option maxHeartbeats 400000 in
theorem to_any {w:World}{v:Value}{l:List Nat}(h:RdN w v l) (hd:Dig BB l) (hl:l.length≤100000):
 Calls Tryz.prog 40 #[v] w (OneD w (digs DD (val BB l))):=by
 obtain⟨i0,hi,hz0,hz1,hz2⟩:=info_parts infoD
 obtain⟨a,c,rfl,h2,h3,h4,hc⟩:=h.view
 have H:=Lib.hid h;clear h hc
 go_enter Tryz.func40,Tryz.ntmps40
 go_wp2
 go_loopw [3,4] (fun v i wr=>∃(k:Nat) (X:List Nat),i= .int .i64 k∧ToOut w l k X v wr) (fun _ i _=>l.length-(intOf i).toNat)
 case atStart=>exact⟨0,[],rfl,⟨Dig.nil _,World.ownsRow_nil _ _ _ _,Below.refl _ _⟩,Nat.zero_le _,rfl,rfl⟩
 case round=>
  obtain⟨k,X,rfl,hO⟩:=hrel
  have HO:=Lib.hid hO
  have hk:=hO.le
  by_cases hkn:k<l.length
  ·have HI:=Lib.hid (hO.start hd)
   obtain⟨a',c',e1,-,-,-,hcell⟩:=(H.out.below hO.below).view
   injection e1 with e1 e2 e3;subst e1 e3
   obtain⟨g,of,rfl,hg,hcell⟩:=hcell k hkn
   rw[←List.getD_eq_getElem?_getD]at hcell
   generalize l.getD k 0=x at hcell HI
   clear hO e2
   go_wp2
   go_loopw [3,5,6] (fun v x i wr=>∃(j x':Nat) (X:List Nat),i= .int .i64 j∧x=L64 x'∧ToIn w l k j x' X v wr) (fun _ _ i _=>4-(intOf i).toNat)
   case atStart=>exact⟨0,x,X,rfl,rfl,HI.out⟩
   case round=>
    clear HO HI
    obtain⟨j,y,X,rfl,rfl,hI⟩:=hrel
    have HI:=Lib.hid hI
    have hj:=hI.le
    by_cases hj4:j<4
    ·have hown:=hI.own
     have hXl:=hI.len
     clear hI
     have hB:=HI.out.below
     have hsz:=hB.size
     have hy:y<18446744073709551616:=HI.out.bound
     go_wp2_with (at_builtin;go_loud (refine wpList_append_own _ rfl _ _ 25 rfl w.heap.size 83 i0 (.int .u32 0) 1 4 Tryz.underlying25 hi hz0 hz1 hz2 rfl (by decide) _ _ _ rfl (hown.alloc _) ⟨wr.heap.size,0,none⟩ 1 1 [.int .u32 ((y:Int)%65536)] rfl rfl (cell_one_new _ _ _) (by simp[Value.oneCell']) ?_ ?_ ?_ ?_;(focus(unfold maxLen;omega));(focus omega);(focus(simp;omega));intro v2 w2 hown2 hg2 _;have HR:=Lib.hid (HI.out.step hj4 (by rw[D32,DD,Int.natCast_emod];exact hown2) ((hB.alloc hB.size _).grown hg2 (by simp;omega) (fun k hk=>(hown.lt k hk).1)));clear hown2 hg2))
     go_round
     case rel=>exact⟨j+1,y/DD,_,by go_num,by simp[DD,L64],HR.out⟩
     case measure=>simp[intOf];omega
    ·obtain rfl:j=4:=by omega
     have HF:=Lib.hid (hI.fin hkn)
     clear hI
     go_wp2
     go_round
     case rel=>exact⟨k+1,X,by go_num,HF.out⟩
     case measure=>simp[intOf];omega
  ·have hkl:k=l.length:=by omega
   have E:strip X=digs DD (val BB l):=by rw[strip_eq DD_two hO.dig,hO.sum,hkl,List.take_length]
   have RX:RdD _ _ X:=Rd.of_own hO.own (fun _ _=>trivial)
   have hB:=hO.below
   have hX:=hO.len
   clear hO
   go_wp2_with (go_at_call 72;(with_reducible refine(norm_any RX ?_).mono ?_);(focus omega);rintro e w3 ⟨v3,rfl,hr,hb3⟩)
   go_ret
   rw[E]at hr
   exact⟨_,rfl,hr,hB.trans (hb3.mono hB.size)⟩
end Go.Proofs.YtffaefjkpipjnaaGreatDoor
namespace Go.Proofs.YtffaefjkpipjnaaGreatDoor
set_option maxRecDepth 100000
open Go.RowKit
theorem strip_full:∀l:List Nat,(strip l).length=l.length→strip l=l
 |[],_=>rfl
 |x::l,h=>by
  unfold strip at h⊢
  split at h
  ·simp at h
  ·rename_i hc
   rw[if_neg hc,strip_full l (by simpa using h)]
theorem full_digs {B:Nat}(hB:2≤B) {X:List Nat}(hd:Dig B X) (hlow:X.length=0∨B^(X.length-1)≤val B X):X=digs B (val B X):=by
 have e:=strip_eq hB hd
 have h1:=strip_length_le X
 rw[←e]
 refine(strip_full X ?_).symm
 rcases hlow with h|h
 ·omega
 ·have:¬(digs B (val B X)).length≤X.length-1:=by rw[digs_length_le hB];omega
  rw[←e]at this;omega
theorem digs_low {B:Nat}(hB:2≤B) (n k:Nat) (h:k<(digs B n).length):B^k≤n:=by
 have:¬(digs B n).length≤k:=by omega
 rw[digs_length_le hB]at this;omega
set_option maxHeartbeats 400000 in
theorem refbits_any {w:World}{v:Value}{n:Nat}(h:RdD w v (digs DD n)) (hl:(digs DD n).length≤1000000):
 Calls Tryz.prog 21 #[v] w (fun e w'=>e= .returned (.int .i64 (bitN n:Nat))∧w'=w):=by
 have hdig:=dig_digs DD_two n
 by_cases hn:n=0
 ·subst hn
  rw[digs_zero]at h
  obtain⟨a,c,rfl,h2,h3,h4,hc⟩:=h.view
  go_enter Tryz.func21,Tryz.ntmps21
  go_wp2
  go_ret
  exact⟨rfl,rfl⟩
 ·have hne:digs DD n≠[]:=fun h=>hn ((digs_nil_iff DD_two n).1 h)
  have htop:=strip_top (l:=digs DD n) (by rw[strip_digs DD_two];exact hne)
  rw[strip_digs DD_two]at htop
  have hb:=bits_list (p:=16) (by rw[←DD_pow];exact hdig) hne htop
  rw[←DD_pow,val_digs DD_two]at hb
  generalize digs DD n=l at*
  obtain⟨a,c,rfl,h2,h3,h4,hc⟩:=h.view
  have hp:=List.length_pos_iff.2 hne
  obtain⟨g,of,rfl,hg,hcell⟩:=hc (l.length-1) (by omega)
  rw[←List.getD_eq_getElem?_getD]at hcell
  have hx:=hdig.getD DD_pos (l.length-1)
  have d0:=len_ne hne
  generalize l.getD (l.length-1) 0=x at hcell hx hb
  rw[hb]
  obtain⟨t,ht⟩:∃t,16*(l.length-1)+bitN x=t:=⟨_,rfl⟩
  rw[ht]
  clear hb htop hdig h hc
  unfold DD at hx
  have hx16:bitN x≤16:=bitN_le.2 (by omega)
  go_enter Tryz.func21,Tryz.ntmps21
  go_wp2
  go_loop [3,4] (fun p x'=>∃(q y:Nat),p= .int .i64 q∧x'=D32 y∧y≤x∧q+bitN y=t) (fun _ x'=>(intOf x').toNat)
  case atStart=>exact⟨16*(l.length-1),x,by go_num,rfl,Nat.le_refl _,ht⟩
  case round=>
   obtain⟨q,y,rfl,rfl,hy,hq⟩:=hrel
   by_cases hy0:y=0
   ·subst hy0
    go_wp2
    go_ret
    rw[bitN_zero]at hq
    exact⟨by rw[←hq];rfl,rfl⟩
   ·have e:=bitN_half hy0
    have H:=Lib.hid hq
    go_wp2
    go_round
    case rel=>exact⟨q+1,y/2,by go_num,by simp,by omega,by omega⟩
    case measure=>simp[intOf];omega
end Go.Proofs.YtffaefjkpipjnaaGreatDoor
namespace Go.Proofs.YtffaefjkpipjnaaGreatDoor
set_option maxRecDepth 100000
open Go.RowKit
theorem val_drop_succ (B:Nat) (l:List Nat) (k:Nat) (h:k<l.length):val B (l.drop k)=l.getD k 0+B*val B (l.drop (k+1)):=by
 rw[List.drop_eq_getElem_cons h,val_cons,getD_lt h]
theorem val_take_drop' (B:Nat) (l:List Nat) (k:Nat):val B l=val B (l.take k)+B^k*val B (l.drop k):=by
 by_cases hk:k≤l.length
 ·exact val_take_drop B l k hk
 ·rw[List.take_of_length_le (by omega),List.drop_eq_nil_of_le (by omega)];simp
end Go.Proofs.YtffaefjkpipjnaaGreatDoor
namespace Go.Proofs.YtffaefjkpipjnaaGreatDoor
set_option maxRecDepth 100000
open Go.RowKit Go.ChangeShapes Go.WideShapes
theorem below_alloc (w:World) (o:Obj):Below w.heap.size w (w.alloc o):=(Below.refl _ _).alloc (Nat.le_refl _) _
theorem below_a {w w':World}{o:Obj}(h:Below (w.alloc o).heap.size (w.alloc o) w'):Below w.heap.size w w':=(below_alloc w o).trans (h.mono (by simp))
theorem mulR_small {A B:Nat}(h:bitN A+bitN B≤65536):mulR A B=(A*B,0):=by
 unfold mulR
 by_cases h0:A=0∨B=0
 ·rw[if_pos h0]
  rcases h0 with rfl|rfl<;>simp
 ·rw[if_neg h0,if_neg (by omega)]
theorem bitN_add_le (a b:Nat):bitN (a+b)≤bitN a+bitN b+1:=by
 rw[bitN_le,Nat.pow_succ,Nat.pow_add]
 have h1:=bitN_lt a
 have h2:=bitN_lt b
 have h3:2^bitN a≤2^bitN a*2^bitN b:=Nat.le_mul_of_pos_right _ (Nat.pow_pos (by omega))
 have h4:2^bitN b≤2^bitN a*2^bitN b:=Nat.le_mul_of_pos_left _ (Nat.pow_pos (by omega))
 omega
theorem val_bits {l:List Nat}{k:Nat}(hd:Dig BB l) (h:l.length≤k):bitN (val BB l)≤64*k:=digs_bits (digs_bound hd h rfl)
theorem heap_new2 (w:World) (o1 o2:Obj):((w.alloc o1).alloc o2).heap[w.heap.size+1]?=some o2:=by
 have:=heap_alloc_new (w.alloc o1) o2
 rw[show(w.alloc o1).heap.size=w.heap.size+1 by simp]at this
 exact this
theorem heap_new3 (w:World) (o1 o2 o3:Obj):(((w.alloc o1).alloc o2).alloc o3).heap[w.heap.size+1+1]?=some o3:=by
 have:=heap_new2 (w.alloc o1) o2 o3
 rw[show(w.alloc o1).heap.size=w.heap.size+1 by simp]at this
 exact this
theorem digsDlen {n k:Nat}(h:bitN n≤k):(digs DD n).length≤k:=by
 rw[digs_length_le DD_two,DD_pow,←Nat.pow_mul]
 exact bitN_le.1 (by omega)
end Go.Proofs.YtffaefjkpipjnaaGreatDoor

namespace Go.Proofs.YtffaefjkpipjnaaGreatDoor
set_option linter.unusedVariables false
set_option linter.unusedSimpArgs false
set_option maxRecDepth 100000
open Go.RowKit Go.ChangeShapes Go.WideShapes
abbrev I64 (x:Nat):Value:= .int .i64 (x:Int)
def RdI (w:World) (v:Value) (l:List Nat):Prop:=Rd (fun _=>True) w v (l.map I64)
theorem RdI.below {w w':World}{v:Value}{l:List Nat}(h:RdI w v l) (hb:Below w.heap.size w w'):RdI w' v l:=Rd.below h hb
theorem RdI.view {w:World}{v:Value}{l:List Nat}(h:RdI w v l):∃a c,v= .slice a l.length c∧l.length≤c∧c≤9223372036854775807∧(a=none→c=0)∧∀j,j<l.length→∃g off,a=some ⟨g,off,none⟩∧g<w.heap.size∧w.cell? ⟨g,off+j,none⟩=some (I64 (l[j]?.getD 0)):=by
 obtain⟨a,c,h1,h2,h3,h4,h5⟩:=Rd.view h
 rw[List.length_map]at h1 h2 h5
 refine⟨a,c,h1,h2,by unfold maxLen at h3;omega,h4,fun j hj=>?_⟩
 obtain⟨g,off,e1,_,e2,e3⟩:=h5 j hj
 exact⟨g,off,e1,e2,by rw[e3,List.getElem?_map,List.getElem?_eq_getElem hj];rfl⟩
theorem infoI:(Tryz.prog.info? 3).map (fun i=>(i.zero,i.size,i.bytes))=some (some (.int .i64 0),1,8):=by kernel_rfl
def planOk (a b:Int):Prop:=32≤a∧a≤b∧64≤b∧b≤8192
theorem plan_no {w:World}{a b:Int}(h:¬planOk a b):Calls Tryz.prog 44 #[.int .i64 a,.int .i64 b] w (fun e w'=>e= .returned (.tuple #[.slice none 0 0,.int .i64 1])∧w'=w):=by
 by_cases h1:a<32
 ·have d1:decide (a<32)=true:=decide_eq_true h1
  clear h h1
  go_enter Tryz.func44,Tryz.ntmps44
  go_wp2
  all_goals
   go_ret2
   exact⟨rfl,rfl⟩
 have d1:decide (a<32)=false:=decide_eq_false h1
 by_cases h2:b<a
 ·have d2:decide (b<a)=true:=decide_eq_true h2
  clear h h1 h2
  go_enter Tryz.func44,Tryz.ntmps44
  go_wp2
  all_goals
   go_ret2
   exact⟨rfl,rfl⟩
 have d2:decide (b<a)=false:=decide_eq_false h2
 by_cases h3:b<64
 ·have d3:decide (b<64)=true:=decide_eq_true h3
  clear h h1 h2 h3
  go_enter Tryz.func44,Tryz.ntmps44
  go_wp2
  all_goals
   go_ret2
   exact⟨rfl,rfl⟩
 have d3:decide (b<64)=false:=decide_eq_false h3
 have d4:decide (8192<b)=true:=decide_eq_true (by unfold planOk at h;omega)
 clear h h1 h2 h3
 go_enter Tryz.func44,Tryz.ntmps44
 go_wp2
 all_goals
  go_ret2
  exact⟨rfl,rfl⟩
def planP (a n:Nat):List Nat:=(List.range n).map (fun j=>a*2^j)
theorem planP_succ (a n:Nat):planP a (n+1)=planP a n++[a*2^n]:=by
 unfold planP
 rw[List.range_succ,List.map_append];rfl
def PlanR (a b:Nat) (l:List Nat):Prop:=∃m,m≤8∧l=planP a m++[b]∧(∀j,j<m→a*2^j<b)∧b≤a*2^m
theorem PlanR.uniq {a b:Nat}{l l':List Nat}(h:PlanR a b l) (h':PlanR a b l'):l=l':=by
 obtain⟨m,-,rfl,h1,h2⟩:=h
 obtain⟨m',-,rfl,h3,h4⟩:=h'
 have:m=m':=by
  rcases Nat.lt_trichotomy m m' with h|h|h
  ·have:=h3 m h;omega
  ·exact h
  ·have:=h1 m' h;omega
 rw[this]
set_option maxHeartbeats 1000000 in
theorem plan_ok {w:World}{a b:Nat}(h1:32≤a) (h2:a≤b) (h3:64≤b) (h4:b≤8192):Calls Tryz.prog 44 #[.int .i64 (a:Int),.int .i64 (b:Int)] w (fun e w'=>∃v l,e= .returned (.tuple #[v,.int .i64 0])∧((∀x∈l,32≤x∧x≤8192∧x≤b)∧1≤l.length∧l.length≤9∧PlanR a b l)∧RdI w' v l∧Below w.heap.size w w'):=by
 obtain⟨i0,hi,hz0,hz1,hz2⟩:=info_parts infoI
 have d1:decide ((a:Int)<32)=false:=decide_eq_false (by omega)
 have d2:decide ((b:Int)<(a:Int))=false:=decide_eq_false (by omega)
 have d2':decide (b<a)=false:=decide_eq_false (by omega)
 have d3:decide ((b:Int)<64)=false:=decide_eq_false (by omega)
 have d4:decide (8192<(b:Int))=false:=decide_eq_false (by omega)
 go_enter Tryz.func44,Tryz.ntmps44
 go_wp2
 go_loopw [6,7] (fun v n wr=>∃(l:List Nat) (k:Nat),n= .int .i64 (k:Int)∧wr.ownsRow w.heap.size 3 1 v l.length (l.map I64)∧(k=a*2^l.length∧(∀x∈l,32≤x∧x≤8192∧x≤b)∧l.length≤8∧l=planP a l.length∧∀j,j<l.length→a*2^j<b)∧Below w.heap.size w wr) (fun _ n _=>b-(intOf n).toNat)
 case atStart=>exact⟨[],a,rfl,World.ownsRow_nil _ _ _ _,⟨by simp,by simp,by simp,rfl,fun j hj=>absurd hj (Nat.not_lt_zero _)⟩,Below.refl _ _⟩
 case round=>
  obtain⟨l,k,rfl,hown,⟨hk,hx,hl,hpl,hpb⟩,hB⟩:=hrel
  have hp:=Nat.two_pow_pos l.length
  have hka:a≤k:=by rw[hk];exact Nat.le_mul_of_pos_right _ hp
  by_cases hlt:k<b
  ·have dk:decide ((k:Int)<(b:Int))=true:=decide_eq_true (by omega)
   have dk':decide (k<b)=true:=decide_eq_true hlt
   have hl7:l.length+1≤8:=by
    rcases Nat.lt_or_ge l.length 8 with h|h
    ·exact h
    ·have e1:2^8≤2^l.length:=Nat.pow_le_pow_right (by decide) h
     have e2:=Nat.mul_le_mul h1 e1
     omega
   have hk2:k*2=a*2^(l.length+1):=by rw[hk,Nat.pow_succ,Nat.mul_assoc]
   have wk:IntKind.i64.wrap ((k:Int)*2)=((k*2:Nat):Int):=by rw[IntKind.wrap_i64];omega
   have hpl2:=Lib.hid (show l++[k]=planP a (l++[k]).length by rw[List.length_append,List.length_singleton,planP_succ,←hpl,←hk])
   have hpb2:=Lib.hid (show∀j,j<(l++[k]).length→a*2^j<b from fun j hj=>by
    rw[List.length_append,List.length_singleton]at hj
    rcases Nat.lt_or_ge j l.length with h|h
    ·exact hpb j h
    ·rw[show j=l.length by omega,←hk];exact hlt)
   clear hpl hpb
   replace hk:=Lib.hid hk;replace hx:=Lib.hid hx;replace hk2:=Lib.hid hk2;have hB':=Lib.hid hB
   have hsz:=hB.size
   rename World=>wr
   go_wp2_with (at_builtin;go_loud (refine wpList_append_rd (N:=fun _=>True) (xs:=l.map I64) (ys:=[I64 k]) (n:=l.length) rfl (.tmp 29) (.tmp 31) 88 rfl w.heap.size 3 i0 (.int .i64 0) 8 Tryz.underlying88 hi hz0 hz1 hz2 rfl rfl rfl (hown.alloc _) (rd_one (heap_alloc_new _ _) trivial) (by intro u hu;simp at hu;subst hu;rfl) (by unfold maxLen;simp;omega) (by simp;omega) (by simp;omega) ?_;intro v1 w1 own1 hg1))
   go_round
   case rel=>exact⟨l++[k],k*2,by go_num,by rw[List.length_append,List.map_append];exact own1,⟨by rw[List.length_append];exact hk2.out,fun x hm=>by
    rcases List.mem_append.1 hm with hm|hm
    ·exact hx.out x hm
    ·rw[List.mem_singleton.1 hm];omega,by rw[List.length_append];exact hl7,hpl2.out,hpb2.out⟩,(hB'.out.alloc hB'.out.size _).grown hg1 (by simp;omega) (fun j hj=>(hown.lt j (by simpa[Act.eval]using hj)).1)⟩
   case measure=>simp[intOf];omega
  ·have dk:decide ((k:Int)<(b:Int))=false:=decide_eq_false (by omega)
   have dk':decide (k<b)=false:=decide_eq_false hlt
   replace hx:=Lib.hid hx;have hB':=Lib.hid hB
   have hsz:=hB.size
   rename World=>wr
   have hPR:=Lib.hid (show PlanR a b (l++[b])from⟨l.length,hl,by rw[←hpl],hpb,by rw[←hk];omega⟩)
   clear hk hpl hpb
   go_wp2_with (at_builtin;go_loud (refine wpList_append_rd (N:=fun _=>True) (xs:=l.map I64) (ys:=[I64 b]) (n:=l.length) rfl (.tmp 33) (.tmp 35) 88 rfl w.heap.size 3 i0 (.int .i64 0) 8 Tryz.underlying88 hi hz0 hz1 hz2 rfl rfl rfl (hown.alloc _) (rd_one (heap_alloc_new _ _) trivial) (by intro u hu;simp at hu;subst hu;rfl) (by unfold maxLen;simp;omega) (by simp;omega) (by simp;omega) ?_;intro v1 w1 own1 hg1))
   go_ret2
   refine⟨v1,l++[b],rfl,⟨fun x hm=>?_,by rw[List.length_append];exact Nat.le_add_left _ _,by rw[List.length_append];exact Nat.succ_le_succ hl,hPR.out⟩,?_,(hB'.out.alloc hB'.out.size _).grown hg1 (by simp;omega) (fun j hj=>(hown.lt j (by simpa[Act.eval]using hj)).1)⟩
   ·rcases List.mem_append.1 hm with hm|hm
    ·exact hx.out x hm
    ·rw[List.mem_singleton.1 hm];omega
   ·have:RdI w1 v1 (l++[b]):=by
     unfold RdI
     rw[List.map_append]
     exact Rd.of_own own1 (fun _ _=>trivial)
    exact this
def fldN (b:Nat):Nat:=b/4503599627370496%2048
def frcN (b:Nat):Nat:=b%4503599627370496
def negN (b:Nat):Bool:=decide (9223372036854775808≤b)
def kindN (b:Nat):Nat:=if fldN b=0 then(if frcN b=0 then 0 else 1)else if fldN b<2047 then 2 else if frcN b=0 then 3 else if 2251799813685248≤frcN b then 4 else 5
def mntN (b:Nat):Nat:=if 0<fldN b then frcN b+4503599627370496 else frcN b
def expN (b:Nat):Int:=max (fldN b:Int) 1-1075
def dyB (b:Nat):Dn:=bareD ⟨negN b,mntN b,expN b⟩
theorem and_11 (x:Nat) (hx:x<18446744073709551616):bits .and .u64 (x:Int) 2047=((x%2048:Nat):Int):=by
 have:=bits_mask .u64 64 (by decide) (fun n h0 h1=>by rw[IntKind.wrap_u64];omega) 11 (by decide) x (by omega) (by omega)
 have e:((2:Int)^11-1)=2047:=by decide
 rw[e]at this
 rw[this];omega
theorem field_n {w:World}{b:Nat}(hb:b<18446744073709551616):Calls Tryz.prog 46 #[L64 b] w (fun e w'=>e= .returned (.int .i64 (fldN b:Int))∧w'=w):=by
 unfold fldN
 obtain⟨q,hq⟩:∃q,b/4503599627370496=q:=⟨_,rfl⟩
 have ha:=and_11 q (by omega)
 have hq2:(b:Int)/4503599627370496=(q:Int):=by omega
 rw[hq]
 obtain⟨r,hr⟩:∃r,q%2048=r:=⟨_,rfl⟩
 have hr2:(q:Int)%2048=(r:Int):=by omega
 have hr3:r<2048:=by omega
 rw[hr]at ha⊢
 clear hq hr hb
 go_enter Tryz.func46,Tryz.ntmps46
 go_wp2
 go_ret
 exact⟨rfl,rfl⟩
theorem and_52 (x:Nat) (hx:x<18446744073709551616):bits .and .u64 (x:Int) 4503599627370495=((x%4503599627370496:Nat):Int):=by
 have:=bits_mask .u64 64 (by decide) (fun n h0 h1=>by rw[IntKind.wrap_u64];omega) 52 (by decide) x (by omega) (by omega)
 have e:((2:Int)^52-1)=4503599627370495:=by decide
 rw[e]at this
 rw[this];omega
theorem and_63 (x:Nat) (hx:x<18446744073709551616):bits .and .u64 (x:Int) 9223372036854775808=if negN x then 9223372036854775808 else 0:=by
 have:=(bits_nat .u64 64 (by decide) (fun n h0 h1=>by rw[IntKind.wrap_u64];omega) x 9223372036854775808 (by omega) (by decide)).1
 rw[show((9223372036854775808:Nat):Int)=9223372036854775808 from rfl]at this
 rw[this]
 have hb:x.testBit 63=negN x:=by
  rw[Nat.testBit_eq_decide_div_mod_eq,show 2^63=9223372036854775808 by decide]
  unfold negN
  by_cases c:9223372036854775808≤x
  ·rw[decide_eq_true c,show x/9223372036854775808=1 by omega];rfl
  ·rw[decide_eq_false c,show x/9223372036854775808=0 by omega];rfl
 have h1:x&&&9223372036854775808=if negN x then 9223372036854775808 else 0:=by
  rw[←hb]
  apply Nat.eq_of_testBit_eq
  intro i
  rw[Nat.testBit_and,show 9223372036854775808=2^63 by decide,Nat.testBit_two_pow]
  by_cases hi:63=i
  ·subst hi
   rw[decide_eq_true rfl,Bool.and_true]
   cases hx63:x.testBit 63
   ·rw[if_neg (by decide)];rfl
   ·rw[if_pos rfl,Nat.testBit_two_pow,decide_eq_true rfl]
  ·rw[decide_eq_false hi,Bool.and_false]
   split
   ·rw[Nat.testBit_two_pow,decide_eq_false hi]
   ·rw[Nat.zero_testBit]
 rw[h1]
 cases negN x<;>rfl
theorem fneg_n {w:World}{b:Nat}(hb:b<18446744073709551616):Calls Tryz.prog 24 #[L64 b] w (fun e w'=>e= .returned (.bool (negN b))∧w'=w):=by
 have ha:=and_63 b hb
 obtain⟨r,hr⟩:∃r,negN b=r:=⟨_,rfl⟩
 rw[hr]at ha⊢
 clear hr hb
 have ha2:bits .and .u64 (b:Int) 9223372036854775808=9223372036854775808∧r=true∨bits .and .u64 (b:Int) 9223372036854775808=0∧r=false:=by
  cases r
  ·exact .inr ⟨ha,rfl⟩
  ·exact .inl ⟨ha,rfl⟩
 clear ha
 rcases ha2 with⟨ha,rfl⟩|⟨ha,rfl⟩
 all_goals
  go_enter Tryz.func24,Tryz.ntmps24
  go_wp2
  go_ret
  exact⟨rfl,rfl⟩
theorem finite_n {w:World}{b:Nat}(hb:b<18446744073709551616):Calls Tryz.prog 45 #[L64 b] w (fun e w'=>e= .returned (.bool (decide (fldN b<2047)))∧w'=w):=by
 have HF:=Lib.hid (fun w=>field_n (w:=w) hb)
 obtain⟨f,hf⟩:∃f,fldN b=f:=⟨_,rfl⟩
 rw[hf]at HF⊢
 clear hf hb
 obtain⟨r,hr⟩:∃r,decide (f<2047)=r:=⟨_,rfl⟩
 have hr2:decide ((f:Int)<2047)=r:=by
  rw[←hr]
  by_cases c:f<2047
  ·rw[decide_eq_true c];exact decide_eq_true (by omega)
  ·rw[decide_eq_false c];exact decide_eq_false (by omega)
 rw[hr]
 go_enter Tryz.func45,Tryz.ntmps45
 go_wp2_with
  (first
    |(go_at_call 46;(with_reducible refine(HF.out _).mono ?_);rintro e w1 ⟨rfl,rfl⟩)
    |fail)
 go_ret
 exact⟨rfl,rfl⟩
theorem kind_n {w:World}{b:Nat}(hb:b<18446744073709551616):Calls Tryz.prog 33 #[L64 b] w (fun e w'=>e= .returned (.int .i64 (kindN b:Int))∧w'=w):=by
 have HF:=Lib.hid (fun w=>field_n (w:=w) hb)
 have ha:=and_52 b hb
 unfold kindN
 obtain⟨f,hf⟩:∃f,fldN b=f:=⟨_,rfl⟩
 obtain⟨g,hg⟩:∃g,frcN b=g:=⟨_,rfl⟩
 unfold frcN at hg
 rw[hg]at ha
 have hg':frcN b=g:=hg
 rw[hg',hf]
 rw[hf]at HF
 have hf2:f<2048:=by rw[←hf];exact Nat.mod_lt _ (by decide)
 clear hf hg hg' hb
 by_cases c0:f=0
 ·subst c0
  rw[if_pos rfl]
  by_cases c1:g=0
  ·subst c1
   rw[if_pos rfl]
   go_enter Tryz.func33,Tryz.ntmps33
   go_wp2_with
    (first
      |(go_at_call 46;(with_reducible refine(HF.out _).mono ?_);rintro e w1 ⟨rfl,rfl⟩)
      |fail)
   go_ret
   exact⟨rfl,rfl⟩
  ·rw[if_neg c1]
   have d1:((g:Int)==0)=false:=beq_false_of_ne (by omega)
   have d2:(g==0)=false:=beq_false_of_ne c1
   go_enter Tryz.func33,Tryz.ntmps33
   go_wp2_with
    (first
      |(go_at_call 46;(with_reducible refine(HF.out _).mono ?_);rintro e w1 ⟨rfl,rfl⟩)
      |fail)
   go_ret
   exact⟨rfl,rfl⟩
 rw[if_neg c0]
 have e0:((f:Int)==0)=false:=beq_false_of_ne (by omega)
 have e0':(f==0)=false:=beq_false_of_ne c0
 by_cases c2:f<2047
 ·rw[if_pos c2]
  have e1:decide ((f:Int)<2047)=true:=decide_eq_true (by omega)
  have e1':decide (f<2047)=true:=decide_eq_true c2
  go_enter Tryz.func33,Tryz.ntmps33
  go_wp2_with
   (first
     |(go_at_call 46;(with_reducible refine(HF.out _).mono ?_);rintro e w1 ⟨rfl,rfl⟩)
     |fail)
  go_ret
  exact⟨rfl,rfl⟩
 rw[if_neg c2]
 have e1:decide ((f:Int)<2047)=false:=decide_eq_false (by omega)
 have e1':decide (f<2047)=false:=decide_eq_false c2
 by_cases c1:g=0
 ·subst c1
  rw[if_pos rfl]
  go_enter Tryz.func33,Tryz.ntmps33
  go_wp2_with
   (first
     |(go_at_call 46;(with_reducible refine(HF.out _).mono ?_);rintro e w1 ⟨rfl,rfl⟩)
     |fail)
  go_ret
  exact⟨rfl,rfl⟩
 rw[if_neg c1]
 have d1:((g:Int)==0)=false:=beq_false_of_ne (by omega)
 have d2:(g==0)=false:=beq_false_of_ne c1
 by_cases c3:2251799813685248≤g
 ·rw[if_pos c3]
  have e3:decide ((2251799813685248:Int)≤(g:Int))=true:=decide_eq_true (by omega)
  have e3':decide (2251799813685248≤g)=true:=decide_eq_true c3
  go_enter Tryz.func33,Tryz.ntmps33
  go_wp2_with
   (first
     |(go_at_call 46;(with_reducible refine(HF.out _).mono ?_);rintro e w1 ⟨rfl,rfl⟩)
     |fail)
  go_ret
  exact⟨rfl,rfl⟩
 ·rw[if_neg c3]
  have e3:decide ((2251799813685248:Int)≤(g:Int))=false:=decide_eq_false (by omega)
  have e3':decide (2251799813685248≤g)=false:=decide_eq_false c3
  go_enter Tryz.func33,Tryz.ntmps33
  go_wp2_with
   (first
     |(go_at_call 46;(with_reducible refine(HF.out _).mono ?_);rintro e w1 ⟨rfl,rfl⟩)
     |fail)
  go_ret
  exact⟨rfl,rfl⟩
end Go.Proofs.YtffaefjkpipjnaaGreatDoor
