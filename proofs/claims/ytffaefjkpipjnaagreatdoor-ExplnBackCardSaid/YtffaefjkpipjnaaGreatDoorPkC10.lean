/- quo.left by its contract. Conditions: the list is short, the limbs are limbs, the shift is less than a limb. -/
import Derived.Test.YtffaefjkpipjnaaGreatDoorPkC08
import Derived.Deep.RegionWith
import Derived.StillTailTactics
namespace Go.Proofs.YtffaefjkpipjnaaGreatDoor
set_option maxRecDepth 100000
open Go.RowKit
structure LeftRel (w:World) (l:List Nat) (s k:Nat) (X:List Nat) (wr:World):Prop where
 le:k≤l.length
 len:X.length=l.length+1
 dig:Dig BB X
 low:X.getD k 0<2^s
 sum:val BB (X.take (k+1))=val BB (l.take k)*2^s
 own:wr.ownsRow w.heap.size 22 1 (.slice (some ⟨w.heap.size,0,none⟩) (l.length+1) (l.length+1)) (l.length+1) (X.map L64)
 below:Below w.heap.size w wr
theorem LeftRel.drewN {w wr:World}{l X:List Nat}{s k:Nat}(h:LeftRel w l s k X wr) (n:Nat):LeftRel w l s k X (wr.drewN n):=⟨h.le,h.len,h.dig,h.low,h.sum,h.own,below_drewN h.below n⟩
theorem LeftRel.step {w wr:World}{l X:List Nat}{s k:Nat}(h:LeftRel w l s k X wr) (hs:s≤63) (hl:Dig BB l) (hk:k<l.length):
 LeftRel w l s (k+1) ((X.set k (X.getD k 0+l.getD k 0*2^s%BB)).set (k+1) (l.getD k 0/2^(64-s)))
  ((wr.setCell ⟨w.heap.size,k,none⟩ (L64 (X.getD k 0+l.getD k 0*2^s%BB))).setCell ⟨w.heap.size,k+1,none⟩ (L64 (l.getD k 0/2^(64-s)))):=by
 have hx:=hl.getD BB_pos k
 have hlen:=h.len
 have hPR:2^s*2^(64-s)=BB:=by rw[←Nat.pow_add,show s+(64-s)=64 by omega,BB_pow]
 have hP:0<2^s:=Nat.pow_pos (by omega)
 have hdiv:l.getD k 0*2^s/BB=l.getD k 0/2^(64-s):=by rw[←hPR,Nat.mul_comm (2^s)];exact Nat.mul_div_mul_right _ _ hP
 have hmod:l.getD k 0*2^s%BB+2^s≤BB:=by
  rw[←hPR,Nat.mul_comm (2^s),Nat.mul_mod_mul_right]
  have:=Nat.mod_lt (l.getD k 0) (Nat.pow_pos (n:=64-s) (show 0<2 by omega))
  have:=Nat.mul_le_mul_right (2^s) (show l.getD k 0%2^(64-s)+1≤2^(64-s)from this)
  rw[Nat.add_mul]at this;omega
 have hc:l.getD k 0/2^(64-s)<2^s:=by
  rw[Nat.div_lt_iff_lt_mul (Nat.pow_pos (by omega)),hPR];exact hx
 have e:=Nat.mod_add_div (l.getD k 0*2^s) BB
 rw[hdiv]at e
 have hlow:=h.low
 have hsum:=h.sum
 rw[val_take_succ]at hsum
 generalize l.getD k 0*2^s%BB=lo at*
 generalize l.getD k 0/2^(64-s)=hi at*
 generalize hxx:l.getD k 0=x at*
 generalize X.getD k 0=c at*
 have hd1:Dig BB (X.set k (c+lo)):=h.dig.set _ (by omega)
 refine⟨hk,by rw[List.length_set,List.length_set];exact hlen,hd1.set _ (by have:=Nat.le_of_mul_le_mul_right (a:=1) (b:=2^(64-s)) (c:=2^s) (by rw[Nat.mul_comm (2^(64-s)),hPR];omega) hP;omega),?_,?_,?_,(h.below.setCell (Nat.le_refl _) _).setCell (Nat.le_refl _) _⟩
 ·rw[List.getD_eq_getElem?_getD,List.getElem?_set_self (by rw[List.length_set];omega)];exact hc
 ·rw[val_set_take BB _ _ _ (by rw[List.length_set];omega),val_set_take BB X _ _ (by omega),val_take_succ BB l,hxx,Nat.pow_succ,Nat.add_mul]
  have e2:=congrArg (BB^k*·) e
  simp only[Nat.mul_add]at e2
  rw[Nat.mul_add,Nat.mul_assoc (BB^k) BB,Nat.mul_assoc (BB^k) x]
  omega
 ·rw[List.map_set,List.map_set]
  exact((h.own.stored k _).1.stored (k+1) _).1
theorem LeftRel.fin {w wr:World}{l X:List Nat}{s:Nat}(h:LeftRel w l s l.length X wr):val BB X=val BB l*2^s:=by
 have:=h.sum
 rw[List.take_length,←h.len,List.take_length]at this
 exact this
end Go.Proofs.YtffaefjkpipjnaaGreatDoor
namespace Go.Proofs.YtffaefjkpipjnaaGreatDoor
set_option maxRecDepth 100000
open Go.RowKit
def LeftEnd (w:World) (l:List Nat) (s:Nat) (e:Ending) (w':World):Prop:=
 e= .returned (.slice (some ⟨w.heap.size,0,none⟩) (l.length+1) (l.length+1))∧∃X,X.length=l.length+1∧Dig BB X∧val BB X=val BB l*2^s∧
  w'.ownsRow w.heap.size 22 1 (.slice (some ⟨w.heap.size,0,none⟩) (l.length+1) (l.length+1)) (l.length+1) (X.map L64)∧Below w.heap.size w w'
theorem or_low {c x s:Nat}(hs:s≤64) (hc:c<2^s):bits .or .u64 (c:Int) ((x*2^s%BB:Nat):Int)=((c+x*2^s%BB:Nat):Int)∧c+x*2^s%BB<18446744073709551616:=by
 have hPR:2^s*2^(64-s)=BB:=by rw[←Nat.pow_add,show s+(64-s)=64 by omega,BB_pow]
 have e:x*2^s%BB=2^s*(x%2^(64-s)):=by
  rw[←hPR,Nat.mul_comm x,Nat.mul_mod_mul_left]
 have hm:=Nat.mod_lt x (Nat.pow_pos (n:=64-s) (show 0<2 by omega))
 have hlt:2^s*(x%2^(64-s))+2^s≤BB:=by
  have:=Nat.mul_le_mul_left (2^s) (show x%2^(64-s)+1≤2^(64-s)from hm)
  rw[Nat.mul_add,hPR]at this;omega
 have hBB:BB=18446744073709551616:=rfl
 have h1:c<2^64:=by
  have:=Nat.pow_le_pow_right (n:=2) (by omega) (show s≤64 by omega)
  exact Nat.lt_of_lt_of_le hc this
 have h2:2^s*(x%2^(64-s))<2^64:=by rw[←BB_pow];omega
 rw[e,(bits_nat .u64 64 (by decide) (fun n h0 h1=>by rw[IntKind.wrap_u64];omega) c _ h1 h2).2,Nat.or_comm,←Nat.two_pow_add_eq_or_of_lt hc,Nat.add_comm]
 exact⟨rfl,by omega⟩
set_option maxHeartbeats 800000 in
theorem left_any {w:World}{v:Value}{l:List Nat}{s:Nat}(hl:RdN w v l) (hdl:Dig BB l) (h1:l.length≤100000) (hs:s≤63):
 Calls Tryz.prog 136 #[v,.int .i64 s] w (LeftEnd w l s):=by
 obtain⟨a,c,rfl,hac,hc,-,-⟩:=hl.view
 obtain⟨i0,hi,hz0,hz1,hz2⟩:=info_parts infoU
 have HL:=Lib.hid hl;clear hl
 obtain⟨n,hn,hn1⟩:∃n:Nat,((l.length:Int)+1)=(n:Int)∧l.length+1=n:=⟨l.length+1,by omega,rfl⟩
 unfold LeftEnd
 rw[hn1]
 have HN:=Lib.hid hn1
 go_enter Tryz.func136,Tryz.ntmps136
 go_wp2_with (at_make;go_loud (refine wpList_make_full _ rfl (.tmp 10) (.tmp 10) 55 rfl w.heap.size 22 i0 (.int .u64 0) 1 Tryz.underlying55 hi hz0 hz1 .i64 .i64 n n n ?_ ?_ rfl rfl ?_ ?_ ?_ ?_;(any_goals (first|rfl|(rw[hz2];omega)|(unfold maxLen;omega)|(with_reducible exact Nat.le_refl _)));intro w0 hown0 hgrow0))
 rw[made_zero]at hown0
 have hst:LeftRel w l s 0 (List.replicate n 0) w0:=⟨Nat.zero_le _,by simp[hn1],Dig.replicate BB_pos _,by rw[replicate_getD];exact Nat.pow_pos (by omega),by
  have h:=val_take_le BB (List.replicate n 0) (0+1)
  rw[val_replicate]at h
  rw[Nat.le_zero.1 h];simp,by rw[hn1];exact hown0,(Below.refl _ _).grown hgrow0 (Nat.le_refl _) (by simp)⟩
 have HST:=Lib.hid hst;clear hst hown0 hgrow0
 go_loopw [14] (fun i wr=>∃(k:Nat) (X:List Nat),i= .int .i64 k∧LeftRel w l s k X wr) (fun i _=>l.length-(intOf i).toNat)
 case atStart=>exact⟨0,_,rfl,HST.out⟩
 case round=>
  obtain⟨k,X,rfl,hR⟩:=hrel
  have HR:=Lib.hid hR
  have hk:=hR.le;have hXl:=hR.len;have hB:=hR.below
  by_cases hkn:k<l.length
  ·obtain⟨a',c',e1,-,-,-,hc2⟩:=(HL.out.below hB).view
   injection e1 with e1 e2 e3;subst e1 e3
   obtain⟨g,of,rfl,hg,hcell⟩:=hc2 k hkn
   rw[←List.getD_eq_getElem?_getD]at hcell
   clear hc2 e2
   have hca:=hR.own.cellAt k (by omega)
   rw[List.getElem?_map,List.getElem?_eq_getElem (by omega),Option.map_some,←getD_lt]at hca
   have hfr:=hR.own.frozenAt k
   have hcb:=hR.own.cellAt (k+1) (by omega)
   rw[List.getElem?_map,List.getElem?_eq_getElem (by omega),Option.map_some,←getD_lt]at hcb
   have hfb:=hR.own.frozenAt (k+1)
   have HS:=Lib.hid (fun d=>(hR.drewN d).step hs hdl hkn)
   have HS0:=Lib.hid (hR.step hs hdl hkn)
   clear hR
   have hx:=hdl.getD BB_pos k
   obtain⟨hor,hob⟩:=or_low (x:=l.getD k 0) (show s≤64 by omega) HR.out.low
   have hXI:IntKind.u64.wrap ((l.getD k 0:Int)*2^s)=((l.getD k 0*2^s%BB:Nat):Int):=by rw[IntKind.wrap_u64,show BB=18446744073709551616 from rfl];simp
   have hLI:(l.getD k 0:Int)/2^(64-s)=((l.getD k 0/2^(64-s):Nat):Int):=by simp
   have hLb:l.getD k 0/2^(64-s)≤l.getD k 0:=Nat.div_le_self _ _
   generalize l.getD k 0*2^s%BB=lo at*
   generalize l.getD k 0/2^(64-s)=hi' at*
   generalize l.getD k 0=x at*
   generalize X.getD k 0=cx at*
   generalize X.getD (k+1) 0=cy at*
   obtain⟨t,ht⟩:∃t,cx+lo=t:=⟨_,rfl⟩
   rw[ht]at hor hob HS HS0
   clear ht
   have hx64:x<18446744073709551616:=hx
   have hkN:k<n:=by omega
   have hkN1:k+1<n:=by omega
   have hm1:min s 64=s:=by omega
   have hm2:min ((64:Int)-(s:Int)).toNat 64=64-s:=by omega
   have hW1:IntKind.u64.wrap (t:Int)=(t:Int):=by rw[IntKind.wrap_u64];omega
   go_wp2
   go_still_tail 8,(by kernel_rfl)
   change wpList _ _ _ _ _ wr.drew
   have hca2:wr.drew.cell? ⟨w.heap.size,k,none⟩=some (L64 cx):=hca
   have hfr2:wr.drew.frozen? ⟨w.heap.size,k,none⟩=false:=hfr
   have hcb2:wr.drew.cell? ⟨w.heap.size,k+1,none⟩=some (L64 cy):=hcb
   have hfb2:wr.drew.frozen? ⟨w.heap.size,k+1,none⟩=false:=hfb
   have HS1:=HS.out 1
   change LeftRel w l s (k+1) _ ((wr.drew.setCell _ _).setCell _ _)at HS1
   have HS1:=Lib.hid HS1
   clear hca hfr hcb hfb HS HS0
   generalize wr.drew=w2 at*
   go_wp2
   go_round
   case rel=>exact⟨k+1,_,by go_num,HS1.out⟩
   case measure=>simp[intOf];omega
  ·have hkl:k=l.length:=by omega
   subst hkl
   have hv:=hR.fin
   have RX:=Lib.hid hR;clear hR
   go_wp2
   go_ret
   exact⟨rfl,X,by rw[hXl,HN.out],RX.out.dig,hv,by rw[←HN.out];exact RX.out.own,hB⟩
end Go.Proofs.YtffaefjkpipjnaaGreatDoor
namespace Go.Proofs.YtffaefjkpipjnaaGreatDoor
set_option maxRecDepth 100000
open Go.RowKit
theorem val_drop_any (B:Nat) (l:List Nat) (k:Nat):val B (l.drop k)=l.getD k 0+B*val B (l.drop (k+1)):=by
 by_cases hk:k<l.length
 ·exact val_drop_succ B l k hk
 ·rw[List.drop_eq_nil_of_le (by omega),List.drop_eq_nil_of_le (by omega),List.getD_eq_getElem?_getD,List.getElem?_eq_none (by omega)];simp
theorem val_div {B:Nat}(hB:0<B) {l:List Nat}(hd:Dig B l) (j:Nat):val B l/B^j=val B (l.drop j):=by
 rw[val_take_drop' B l j]
 have h:=val_lt (hd.take j)
 have h2:B^(l.take j).length≤B^j:=Nat.pow_le_pow_right hB (by rw[List.length_take];omega)
 rw[Nat.add_mul_div_left _ _ (Nat.pow_pos hB),Nat.div_eq_of_lt (by omega),Nat.zero_add]
theorem shr_limb {l:List Nat}(hd:Dig BB l) {n wh pt k:Nat}(hn:n=64*wh+pt) (hp:pt<64):
 val BB l/2^n/BB^k%BB=l.getD (k+wh) 0/2^pt+l.getD (k+wh+1) 0*2^(64-pt)%BB∧l.getD (k+wh) 0/2^pt<2^(64-pt):=by
 have hPR:2^pt*2^(64-pt)=BB:=by rw[←Nat.pow_add,show pt+(64-pt)=64 by omega,BB_pow]
 have hP:0<2^pt:=Nat.pow_pos (by omega)
 have hR:0<2^(64-pt):=Nat.pow_pos (by omega)
 have e1:val BB l/2^n/BB^k=val BB l/BB^(k+wh)/2^pt:=by
  rw[Nat.div_div_eq_div_mul,Nat.div_div_eq_div_mul,hn,BB_pow,←Nat.pow_mul,←Nat.pow_mul,←Nat.pow_add,←Nat.pow_add]
  congr 2;omega
 have hx:=hd.getD BB_pos (k+wh)
 have hlt:l.getD (k+wh) 0/2^pt<2^(64-pt):=by
  rw[Nat.div_lt_iff_lt_mul hP,Nat.mul_comm,hPR];exact hx
 refine⟨?_,hlt⟩
 rw[e1,val_div BB_pos hd,val_drop_any,val_drop_any BB l (k+wh+1)]
 generalize l.getD (k+wh) 0=x at*
 generalize l.getD (k+wh+1) 0=y at*
 generalize val BB (l.drop (k+wh+1+1))=V
 have e2:x+BB*(y+BB*V)=x+2^pt*(2^(64-pt)*y+BB*(2^(64-pt)*V)):=by
  rw[Nat.mul_add BB,Nat.mul_add (2^pt),←Nat.mul_assoc (2^pt),hPR,Nat.mul_left_comm (2^pt) BB,←Nat.mul_assoc (2^pt) (2^(64-pt)),hPR]
 rw[e2,Nat.add_mul_div_left _ _ hP,←Nat.add_assoc,Nat.add_mul_mod_self_left]
 have hm:y*2^(64-pt)%BB=2^(64-pt)*(y%2^pt):=by rw[←hPR,Nat.mul_comm y,Nat.mul_comm (2^pt),Nat.mul_mod_mul_left]
 have hm2:2^(64-pt)*(y%2^pt)+2^(64-pt)≤BB:=by
  have:=Nat.mul_le_mul_left (2^(64-pt)) (show y%2^pt+1≤2^pt from Nat.mod_lt y hP)
  rw[Nat.mul_add,Nat.mul_comm (2^(64-pt)) (2^pt),hPR]at this;omega
 rw[Nat.mul_comm (2^(64-pt)) y,Nat.add_mod,Nat.mod_eq_of_lt (show x/2^pt<BB by omega),hm,Nat.mod_eq_of_lt (by omega)]
structure ShrRel (w:World) (A m k:Nat) (X:List Nat) (wr:World):Prop where
 le:k≤m
 len:X.length=m
 dig:Dig BB X
 sum:val BB (X.take k)=A%BB^k
 own:wr.ownsRow w.heap.size 22 1 (.slice (some ⟨w.heap.size,0,none⟩) m m) m (X.map L64)
 below:Below w.heap.size w wr
theorem ShrRel.drewN {w wr:World}{X:List Nat}{A m k:Nat}(h:ShrRel w A m k X wr) (n:Nat):ShrRel w A m k X (wr.drewN n):=⟨h.le,h.len,h.dig,h.sum,h.own,below_drewN h.below n⟩
theorem ShrRel.step {w wr:World}{X:List Nat}{A m k x:Nat}(h:ShrRel w A m k X wr) (hk:k<m) (hx:x=A/BB^k%BB):ShrRel w A m (k+1) (X.set k x) (wr.setCell ⟨w.heap.size,k,none⟩ (L64 x)):=
 ⟨hk,by rw[List.length_set];exact h.len,h.dig.set _ (by rw[hx];exact Nat.mod_lt _ BB_pos),by
   rw[val_set_take BB X _ _ (by rw[h.len];exact hk),h.sum,Nat.mod_pow_succ,hx],by
   rw[List.map_set];exact(h.own.stored k _).1,h.below.setCell (Nat.le_refl _) _⟩
theorem ShrRel.fin {w wr:World}{X:List Nat}{A m:Nat}(h:ShrRel w A m m X wr) (hA:A<BB^m):strip X=digs BB A:=by
 have:=h.sum
 rw[←h.len,List.take_length,h.len,Nat.mod_eq_of_lt hA]at this
 rw[strip_eq BB_two h.dig,this]
theorem low_rest {A k n:Nat}(hA:A≠0) (h:IsLow A k):decide (k<n)=decide (A%2^n≠0):=by
 rcases h with⟨h,-⟩|⟨m,rfl⟩
 ·exact absurd h hA
 ·by_cases hk:k<n
  ·rw[decide_eq_true hk,decide_eq_true]
   intro h0
   obtain⟨j,rfl⟩:∃j,n=k+1+j:=⟨n-k-1,by omega⟩
   rw[Nat.pow_add,Nat.pow_succ,Nat.mul_assoc,Nat.mul_mod_mul_left]at h0
   have h1:(2*m+1)%(2*2^j)=0:=by
    rcases Nat.mul_eq_zero.1 h0 with h2|h2
    ·exact absurd h2 (Nat.ne_of_gt (Nat.pow_pos (by omega)))
    ·exact h2
   have h2:=Nat.mod_mod_of_dvd (2*m+1) (Nat.dvd_mul_right 2 (2^j))
   rw[h1]at h2
   omega
  ·rw[decide_eq_false hk,decide_eq_false]
   intro h0
   apply h0
   obtain⟨j,rfl⟩:∃j,k=n+j:=⟨k-n,by omega⟩
   rw[Nat.pow_add,Nat.mul_assoc]
   exact Nat.mul_mod_right _ _
end Go.Proofs.YtffaefjkpipjnaaGreatDoor
namespace Go.Proofs.YtffaefjkpipjnaaGreatDoor
set_option maxRecDepth 100000
open Go.RowKit
def ShrEnd (w:World) (A n:Nat) (e:Ending) (w':World):Prop:=
 ∃v,e= .returned (.tuple #[v,.bool (decide (A%2^n≠0))])∧RdN w' v (digs BB (A/2^n))∧Below w.heap.size w w'
set_option maxRecDepth 100000 in
set_option maxHeartbeats 1000000 in
theorem shr_any {w:World}{v:Value}{l:List Nat}{i:Int}(hl:RdN w v l) (hdl:Dig BB l) (h1:l.length≤100000) (hi:i≤9223372036854775807) (hi': -9223372036854775808≤i) (hT:Tab w):
 Calls Tryz.prog 116 #[v,.int .i64 i] w (ShrEnd w (val BB l) i.toNat):=by
 obtain⟨i0,hi0,hz0,hz1,hz2⟩:=info_parts infoU
 have HA:=bare_num hl hdl h1
 have la:=digs_bound hdl h1 rfl
 generalize val BB l=A at*
 have dA:=dig_digs BB_two A
 have eA:=val_digs BB_two A
 have gA:=digs_bits (n:=A) la
 have HbA:=Lib.hid (fun(w:World) v (h1:RdN w v (digs BB A))=>bits_num h1 dA la)
 have HLow:=Lib.hid (fun(w:World) v (h1:RdN w v (digs BB A)) (hT:Tab w)=>low_any h1 dA la hT)
 rw[eA]at HbA HLow
 obtain⟨n,hn⟩:∃n,i.toNat=n:=⟨_,rfl⟩
 rw[hn]
 have hmax:((if i<0 then 0 else i:Int))=(n:Int):=by split<;>omega
 have hmax2:max i 0=(n:Int):=by omega
 have hT:=Lib.hid hT
 obtain⟨b,hb⟩:∃b,bitN A=b:=⟨_,rfl⟩
 by_cases hbig:b≤n
 ·have hlt:A<2^n:=bitN_le.1 (by omega)
  have hdig:A/2^n=0:=Nat.div_eq_of_lt hlt
  have hmod:A%2^n=A:=Nat.mod_eq_of_lt hlt
  have hlen:decide (A%2^n≠0)=decide (0<(digs BB A).length):=by
   rw[hmod]
   by_cases h0:A=0
   ·rw[h0,digs_zero];rfl
   ·rw[decide_eq_true h0,decide_eq_true (List.length_pos_iff.2 (fun h=>h0 ((digs_nil_iff BB_two A).1 h)))]
  unfold ShrEnd
  rw[hdig,hlen]
  rw[hb]at HbA
  generalize digs BB A=s at*
  clear hdig hmod hlen hlt
  go_enter Tryz.func116,Tryz.ntmps116
  go_wp2_with (first
   |(go_at_call 75;(with_reducible refine HA.mono ?_);rintro e w1 ⟨v1,rfl,hr,hb1⟩;obtain⟨a1,k1,rfl,-⟩:=hr.view)
   |(go_at_call 48;(with_reducible refine(HbA.out _ _ hr).mono ?_);rintro e w2 ⟨rfl,hb2⟩))
  all_goals
   go_ret2
   exact⟨_,by simp,RdN.nil0 _,hb1.trans (hb2.mono hb1.size)⟩
 ·have hA0:A≠0:=fun h=>by rw[h,bitN_zero]at hb;omega
  have hwh:n/64<(digs BB A).length:=by
   have h2:=digs_bits (n:=A) (Nat.le_refl _)
   omega
  obtain⟨wh,hwh2⟩:∃x,n/64=x:=⟨_,rfl⟩
  obtain⟨pt,hpt⟩:∃x,n%64=x:=⟨_,rfl⟩
  have hnw:n=64*wh+pt:=by omega
  have hpt64:pt<64:=by omega
  have hwI:(n:Int)/64=(wh:Int):=by omega
  have hpI:(n:Int)%64=(pt:Int):=by omega
  have hwI2:(n:Int).tdiv 64=(wh:Int):=by rw[Int.tdiv_eq_ediv_of_nonneg (by omega)];exact hwI
  have hpI2:(n:Int).tmod 64=(pt:Int):=by rw[Int.tmod_eq_emod_of_nonneg (by omega)];exact hpI
  rw[hwh2]at hwh
  have hAm:A/2^n<BB^((digs BB A).length-wh):=by
   have h2:=(digs_length_le BB_two A (digs BB A).length).1 (Nat.le_refl _)
   rw[Nat.div_lt_iff_lt_mul (Nat.pow_pos (by omega))]
   refine Nat.lt_of_lt_of_le h2 ?_
   have e:BB^(digs BB A).length=BB^((digs BB A).length-wh)*BB^wh:=by rw[←Nat.pow_add];congr 1;omega
   rw[e]
   refine Nat.mul_le_mul_left _ ?_
   rw[BB_pow,←Nat.pow_mul]
   exact Nat.pow_le_pow_right (by omega) (by omega)
  have hlimb:=fun k=>shr_limb (l:=digs BB A) dA (k:=k) hnw hpt64
  rw[eA]at hlimb
  have hlimb:=Lib.hid hlimb
  rw[hb]at HbA
  generalize digs BB A=s at*
  obtain⟨m,hm,hm2⟩:∃m:Nat,((s.length:Int)-(wh:Int))=(m:Int)∧s.length-wh=m:=⟨s.length-wh,by omega,rfl⟩
  rw[hm2]at hAm
  have HAM:=Lib.hid hAm
  have HNW:=Lib.hid hnw
  have hn30:n≤6400000:=by omega
  clear hAm hwh2 hpt hb hnw
  go_enter Tryz.func116,Tryz.ntmps116
  go_wp2_with (first
   |(go_at_call 75;(with_reducible refine HA.mono ?_);rintro e w1 ⟨v1,rfl,hr,hb1⟩;obtain⟨a1,k1,rfl,-⟩:=hr.view)
   |(go_at_call 48;(with_reducible refine(HbA.out _ _ hr).mono ?_);rintro e w2 ⟨rfl,hb2⟩)
   |(at_make;go_loud (refine wpList_make_full _ rfl (.tmp 29) (.tmp 29) 55 rfl w2.heap.size 22 i0 (.int .u64 0) 1 Tryz.underlying55 hi0 hz0 hz1 .i64 .i64 m m m ?_ ?_ rfl rfl ?_ ?_ ?_ ?_;(any_goals (first|rfl|(rw[hz2];omega)|(unfold maxLen;omega)|(with_reducible exact Nat.le_refl _)));intro w0 hown0 hgrow0)))
  rw[made_zero]at hown0
  have B2:=hb1.trans (hb2.mono hb1.size)
  have HS:=Lib.hid (show ShrRel w2 (A/2^n) m 0 (List.replicate m 0) w0 from⟨Nat.zero_le _,by simp,Dig.replicate BB_pos _,by rw[List.take_zero,val_nil,Nat.pow_zero,Nat.mod_one],hown0,(Below.refl _ _).grown hgrow0 (Nat.le_refl _) (by simp)⟩)
  have HR2:=Lib.hid (hr.below hb2)
  clear hown0 hgrow0
  go_loopw [33] (fun i wr=>∃(k:Nat) (X:List Nat),i= .int .i64 k∧ShrRel w2 (A/2^n) m k X wr) (fun i _=>m-(intOf i).toNat)
  case atStart=>exact⟨0,_,rfl,HS.out⟩
  case round=>
   clear HS
   obtain⟨k,X,rfl,hR⟩:=hrel
   have HR:=Lib.hid hR
   have hk:=hR.le;have hXl:=hR.len;have hB:=hR.below
   have B3:=B2.trans (hB.mono B2.size)
   by_cases hkm:k<m
   ·obtain⟨kk,hkk⟩:∃t,k+wh=t:=⟨_,rfl⟩
    have hkI:(k:Int)+(wh:Int)=(kk:Int):=by omega
    have hkb:kk+1≤100000:=by omega
    have RD:=(HR2.out.below hB).below (below_drewN (Below.refl _ _) 1)
    have HLa:=limb_nat RD (k:=kk) (by omega)
    have HLb:=limb_nat RD (k:=kk+1) (by omega)
    rw[Int.natCast_add]at HLb
    have hlim:=hlimb.out k
    rw[hkk]at hlim
    have hca:=hR.own.cellAt k (by omega)
    rw[List.getElem?_map,List.getElem?_eq_getElem (by omega),Option.map_some,←getD_lt]at hca
    have hfr:=hR.own.frozenAt k
    obtain⟨hor,hob⟩:=or_low (x:=s.getD (kk+1) 0) (show 64-pt≤64 by omega) hlim.2
    have hYI:IntKind.u64.wrap ((s.getD (kk+1) 0:Int)*2^(64-pt))=((s.getD (kk+1) 0*2^(64-pt)%BB:Nat):Int):=by rw[IntKind.wrap_u64,show BB=18446744073709551616 from rfl];simp
    have hXI:(s.getD kk 0:Int)/2^pt=((s.getD kk 0/2^pt:Nat):Int):=by simp
    have hx:=dA.getD BB_pos kk
    have hxb:s.getD kk 0/2^pt≤s.getD kk 0:=Nat.div_le_self _ _
    have HST:=Lib.hid ((hR.drewN 1).step hkm hlim.1.symm)
    clear hR hlim
    generalize s.getD kk 0/2^pt=xl at*
    generalize s.getD (kk+1) 0*2^(64-pt)%BB=yl at*
    generalize s.getD kk 0=x at*
    generalize s.getD (kk+1) 0=y at*
    generalize X.getD k 0=o at*
    obtain⟨t,ht⟩:∃t,xl+yl=t:=⟨_,rfl⟩
    rw[ht]at hor hob HST
    clear ht hkk
    have hx64:x<18446744073709551616:=hx
    have hm1:min pt 64=pt:=by omega
    have hm2:min ((64:Int)-(pt:Int)).toNat 64=64-pt:=by omega
    have hW1:IntKind.u64.wrap (t:Int)=(t:Int):=by rw[IntKind.wrap_u64];omega
    have hW2:IntKind.u64.wrap (xl:Int)=(xl:Int):=by rw[IntKind.wrap_u64];omega
    have hW3:IntKind.i64.wrap ((kk:Int)+1)=(kk:Int)+1:=by rw[IntKind.wrap_i64];omega
    have hW4:IntKind.i64.wrap (64-(pt:Int))=64-(pt:Int):=by rw[IntKind.wrap_i64];omega
    have HLa:=Lib.hid HLa;have HLb:=Lib.hid HLb
    go_wp2
    go_still_tail 15,(by kernel_rfl)
    still_call HLa.out
    repeat still_step
    still_call HLb.out
    repeat still_step
    refine wpStill_nil ?_
    change wpList _ _ _ _ _ wr.drew
    have hca2:wr.drew.cell? ⟨w2.heap.size,k,none⟩=some (L64 o):=hca
    have hfr2:wr.drew.frozen? ⟨w2.heap.size,k,none⟩=false:=hfr
    change Hid (ShrRel w2 _ m (k+1) _ (wr.drew.setCell _ _))at HST
    clear hca hfr HLa HLb RD
    generalize wr.drew=w3 at*
    go_wp2
    go_round
    case rel=>exact⟨k+1,_,by go_num,HST.out⟩
    case measure=>simp[intOf];omega
   ·have hkl:k=m:=by omega
    subst hkl
    have E:=hR.fin HAM.out
    have RX:RdN _ _ X:=Rd.of_own hR.own (fun _ _=>trivial)
    have RS:=Lib.hid (HR2.out.below hB)
    have HT3:=Lib.hid (hT.out.below B3)
    clear hR
    go_wp2_with (first
     |(go_at_call 75;(with_reducible refine(bare_any RX ?_).mono ?_);(focus omega);rintro e w4 ⟨v4,rfl,hr4,hb4⟩)
     |(go_at_call 115;(with_reducible refine(HLow.out _ _ (RS.out.below hb4) (HT3.out.below hb4)).mono ?_);rintro e w5 ⟨kl,rfl,hlow,rfl,hkl⟩;have HLW:=Lib.hid (low_rest (n:=n) hA0 hlow)))
    go_ret2
    rw[E]at hr4
    exact⟨_,by rw[←HLW.out];simp,hr4,B3.trans (hb4.mono B3.size)⟩
end Go.Proofs.YtffaefjkpipjnaaGreatDoor
namespace Go.Proofs.YtffaefjkpipjnaaGreatDoor
set_option maxRecDepth 100000
open Go.RowKit
structure LongRel (N D n m p:Nat) (U Q:List Nat):Prop where
 ulen:U.length=m+n
 udig:Dig BB U
 qlen:Q.length=m
 qdig:Dig BB Q
 le:p≤m
 sum:val BB U+D*(BB^p*val BB (Q.drop p))=N
 lt:val BB U<D*BB^p
def part (U:List Nat) (j n:Nat):List Nat:=(U.drop j).take (n+1)
theorem part_len {U:List Nat}{j n:Nat}(h:j+(n+1)≤U.length):(part U j n).length=n+1:=by
 unfold part;rw[List.length_take,List.length_drop];omega
theorem part_dig {U:List Nat}(h:Dig BB U) (j n:Nat):Dig BB (part U j n):=(h.drop j).take _
theorem LongRel.small {N D n m j:Nat}{U Q:List Nat}(h:LongRel N D n m (j+1) U Q) (hD:D<BB^n):val BB U<BB^(j+(n+1)):=by
 have h1:=h.lt
 have h2:=Nat.mul_lt_mul_of_pos_right hD (Nat.pow_pos (n:=j+1) BB_pos)
 rw[←Nat.pow_add,show n+(j+1)=j+(n+1)by omega]at h2
 omega
theorem LongRel.cut {N D n m j:Nat}{U Q:List Nat}(h:LongRel N D n m (j+1) U Q) (hD:D<BB^n):val BB (U.take (j+(n+1)))=val BB U∧val BB U=val BB (U.take j)+BB^j*val BB (part U j n):=by
 have h1:=val_take_lt' (h.small hD)
 refine⟨h1,?_⟩
 have hle:=h.le
 have e:=val_take_drop' BB (U.take (j+(n+1))) j
 rw[List.take_take,Nat.min_eq_left (by omega),h1,List.drop_take,show j+(n+1)-j=n+1 by omega]at e
 exact e
theorem LongRel.part_lt {N D n m j:Nat}{U Q:List Nat}(h:LongRel N D n m (j+1) U Q) (hD:D<BB^n):val BB (part U j n)<D*BB:=by
 have h1:=(h.cut hD).2
 have h2:=h.lt
 rw[h1,Nat.pow_succ,←Nat.mul_assoc,Nat.mul_right_comm]at h2
 have h3:BB^j*val BB (part U j n)<BB^j*(D*BB):=by
  rw[Nat.mul_comm (BB^j) (D*BB)]
  omega
 exact Nat.lt_of_mul_lt_mul_left h3
theorem val_top1 {B:Nat}{P:List Nat}{n:Nat}(hP:P.length=n+1):val B P=val B (P.take n)+B^n*P.getD n 0:=by
 rw[←val_take_succ,←hP,List.take_length]
theorem top_le {P V:List Nat}{n:Nat}(hP:P.length=n+1) (hV:V.length=n) (hn:1≤n) (hdV:Dig BB V) (h:val BB P<val BB V*BB):P.getD n 0≤V.getD (n-1) 0:=by
 have e1:=val_top1 (B:=BB) hP
 have e2:=val_top1 (B:=BB) (P:=V) (n:=n-1) (by omega)
 have h1:=val_lt (hdV.take (n-1))
 rw[List.length_take,Nat.min_eq_left (by omega)]at h1
 have h2:val BB V+1≤BB^(n-1)*(V.getD (n-1) 0+1):=by rw[Nat.mul_add];omega
 have h3:=Nat.mul_le_mul_right BB h2
 rw[Nat.mul_right_comm,←Nat.pow_succ,show(n-1).succ=n by omega,Nat.add_mul]at h3
 have h4:BB^n*P.getD n 0<BB^n*(V.getD (n-1) 0+1):=by omega
 have:=Nat.lt_of_mul_lt_mul_left h4
 omega
theorem val_top3 {P:List Nat}{n:Nat}(hP:P.length=n+3):val BB P=val BB (P.take n)+BB^n*((P.getD (n+2) 0*BB+P.getD (n+1) 0)*BB+P.getD n 0):=by
 rw[val_top1 (n:=n+2) hP,val_take_succ,val_take_succ,Nat.pow_succ,Nat.pow_succ,Nat.pow_succ]
 generalize P.getD (n+2) 0=a
 generalize P.getD (n+1) 0=b
 generalize P.getD n 0=c
 rw[Nat.mul_add,Nat.add_mul,Nat.mul_add,Nat.mul_assoc (BB^n) BB b,Nat.mul_comm BB b,Nat.mul_assoc (BB^n*BB),Nat.mul_assoc (BB^n) BB,←Nat.mul_assoc BB BB,Nat.mul_comm (BB*BB) a,←Nat.mul_assoc a]
 omega
theorem val_top2 {V:List Nat}{n:Nat}(hV:V.length=n+2):val BB V=val BB (V.take n)+BB^n*(V.getD (n+1) 0*BB+V.getD n 0):=by
 rw[val_top1 (n:=n+1) hV,val_take_succ,Nat.pow_succ]
 generalize V.getD (n+1) 0=b
 generalize V.getD n 0=c
 rw[Nat.mul_add,Nat.mul_assoc (BB^n) BB b,Nat.mul_comm BB b]
 omega
theorem guess_up {P V:List Nat}{n g:Nat}(hP:P.length=n+3) (hV:V.length=n+2) (hdP:Dig BB P) (h:val BB P<val BB V*BB) (hg:Guessed P (V.getD (n+1) 0) (V.getD n 0) g):val BB P<(g+1)*val BB V:=by
 obtain⟨-,hg⟩:=hg
 rcases hg with hg|hg
 ·rw[hP,show n+3-1=n+2 by omega,show n+3-2=n+1 by omega,show n+3-3=n by omega]at hg
  have e1:=val_top3 hP
  have e2:=val_top2 hV
  have h1:=val_lt (hdP.take n)
  rw[List.length_take,Nat.min_eq_left (by omega)]at h1
  generalize (P.getD (n+2) 0*BB+P.getD (n+1) 0)*BB+P.getD n 0=T at*
  generalize V.getD (n+1) 0*BB+V.getD n 0=W at*
  have h2:=Nat.mul_le_mul_left (BB^n) (show T+1≤(g+1)*W from hg)
  rw[Nat.mul_add,Nat.mul_one,Nat.mul_left_comm]at h2
  rw[e1,e2,Nat.mul_add]
  omega
 ·rw[hg,Nat.mul_comm];exact h
structure InRel (D u j n d:Nat) (c:Bool) (Y:Nat):Prop where
 eq:Y+BB^j*(D*d)=u+BB^(j+n+1)*b2n c
 up:u<(d+1)*D*BB^j
theorem InRel.pos {D u j n d Y:Nat}(h:InRel D u j n d true Y) (hY:Y<BB^(j+n+1)):u<d*D*BB^j∧d≠0:=by
 have e:=h.eq
 simp only[b2n,if_true,Nat.mul_one]at e
 have e2:BB^j*(D*d)=d*D*BB^j:=by rw[Nat.mul_comm,Nat.mul_comm D d]
 rw[e2]at e
 refine⟨by omega,fun h0=>?_⟩
 rw[h0,Nat.zero_mul,Nat.zero_mul]at e;omega
theorem InRel.back {D u j n d Y Y':Nat}{c:Bool}(h:InRel D u j n d true Y) (hY:Y<BB^(j+n+1)) (hp:Y'+BB^(j+n+1)*b2n c=Y+BB^j*D):InRel D u j n (d-1) (!c) Y':=by
 obtain⟨h1,h2⟩:=h.pos hY
 obtain⟨k,rfl⟩:∃k,d=k+1:=⟨d-1,by omega⟩
 have e:=h.eq
 simp only[b2n,if_true,Nat.mul_one]at e
 rw[Nat.mul_add D,Nat.mul_add (BB^j),Nat.mul_one]at e
 refine⟨?_,by rw[Nat.add_sub_cancel];exact h1⟩
 rw[Nat.add_sub_cancel]
 cases c
 ·simp only[b2n,Bool.not_false,if_true,Bool.false_eq_true,if_false,Nat.mul_zero,Nat.mul_one]at hp⊢
  omega
 ·simp only[b2n,Bool.not_true,if_true,Bool.false_eq_true,if_false,Nat.mul_zero,Nat.mul_one]at hp⊢
  omega
theorem LongRel.step {N D n m j d:Nat}{U Q X:List Nat}(h:LongRel N D n m (j+1) U Q) (hX:X.length=U.length) (hdX:Dig BB X) (hd:d<BB) (hi:InRel D (val BB U) j n d false (val BB X)):LongRel N D n m j X (Q.set j d):=by
 have hle:=h.le
 have hs:=h.sum
 have e:=hi.eq
 simp only[b2n,Bool.false_eq_true,if_false,Nat.mul_zero,Nat.add_zero]at e
 refine⟨hX.trans h.ulen,hdX,by rw[List.length_set];exact h.qlen,h.qdig.set _ hd,by omega,?_,?_⟩
 ·rw[drop_set_self Q j d (by rw[h.qlen];omega),val_cons,←hs,←e,Nat.mul_add (BB^j),Nat.mul_add D,Nat.pow_succ,Nat.mul_assoc (BB^j) BB,Nat.mul_left_comm D (BB^j) d]
  omega
 ·have h2:=hi.up
  rw[Nat.add_mul,Nat.one_mul,Nat.add_mul,←e,Nat.mul_comm (BB^j) (D*d),Nat.mul_comm D d]at h2
  omega
theorem LongRel.fin {A B n m s:Nat}{U Q:List Nat}(h:LongRel (A*2^s) (B*2^s) n m 0 U Q):strip Q=digs BB (A/B)∧val BB U/2^s=A%B:=by
 have hs:=h.sum
 have hl:=h.lt
 rw[Nat.pow_zero,List.drop_zero,Nat.one_mul]at hs
 rw[Nat.pow_zero,Nat.mul_one]at hl
 have hP:0<2^s:=Nat.pow_pos (by omega)
 have hd:A*2^s/(B*2^s)=val BB Q:=by
  rw[←hs,Nat.add_comm,Nat.mul_add_div (by omega),Nat.div_eq_of_lt hl,Nat.add_zero]
 have hm:A*2^s%(B*2^s)=val BB U:=by
  rw[←hs,Nat.add_comm,Nat.mul_add_mod,Nat.mod_eq_of_lt hl]
 rw[Nat.mul_div_mul_right _ _ hP]at hd
 rw[Nat.mul_mod_mul_right]at hm
 exact⟨by rw[strip_eq BB_two h.qdig,hd],by rw[←hm,Nat.mul_div_cancel _ hP]⟩
end Go.Proofs.YtffaefjkpipjnaaGreatDoor
namespace Go.Proofs.YtffaefjkpipjnaaGreatDoor
set_option maxRecDepth 100000
open Go.RowKit
theorem own_fr_at {S:Nat→Prop}{w w':World}{base:Nat}{e:TypeId}{size:Nat}{B k c n:Nat}{xs:List Value}(h:w.ownsRow base e size (.slice (some ⟨B,0,none⟩) k c) n xs) (hf:Fr S w w') (hs:¬S B):w'.ownsRow base e size (.slice (some ⟨B,0,none⟩) k c) n xs:=by
 refine⟨h.1,?_⟩
 rcases h.2 with⟨h,-⟩|⟨g,cap,cur,h1,h2,h3,h4⟩
 ·cases h
 ·have e:B=g:=by injection h1 with h1;injection h1 with h1;injection h1
  subst e
  exact .inr ⟨B,cap,cur,h1,h2,hf.at h3 hs,h4⟩
theorem getElem_map_L {X:List Nat}{j:Nat}{u:Value}(h:(X.map L64)[j]?=some u):j<X.length∧u=L64 (X.getD j 0):=by
 rw[List.getElem?_map]at h
 by_cases hj:j<X.length
 ·rw[List.getElem?_eq_getElem hj]at h
  rw[getD_lt hj]
  exact⟨hj,by injection h with h;exact h.symm⟩
 ·rw[List.getElem?_eq_none (by omega)]at h;cases h
theorem rd_part {w:World}{base:Nat}{e:TypeId}{B c n:Nat}{X:List Nat}(h:w.ownsRow base e 1 (.slice (some ⟨B,0,none⟩) n c) n (X.map L64)) (off m C:Nat) (hm:off+m≤n) (hC:m≤C) (hC2:C≤maxLen):
 Rd (fun g=>g=B) w (.slice (some ⟨B,off,none⟩) m C) (((X.drop off).take m).map L64):=by
 have hl:X.length=n:=by simpa using h.1
 have hlen:((X.drop off).take m).length=m:=by rw[List.length_take,List.length_drop];omega
 refine⟨some ⟨B,off,none⟩,C,by rw[List.length_map,hlen],by rw[List.length_map,hlen];exact hC,hC2,(fun h=>by cases h),fun j u hj=>⟨B,off,rfl,rfl,?_⟩⟩
 obtain⟨h1,rfl⟩:=getElem_map_L hj
 rw[hlen]at h1
 have e:((X.drop off).take m).getD j 0=X.getD (off+j) 0:=by
  rw[List.getD_eq_getElem?_getD,List.getElem?_take,if_pos h1,List.getElem?_drop,←List.getD_eq_getElem?_getD]
 rw[e]
 have hc:=h.cellAt (off+j) (by omega)
 have hjX:off+j<X.length:=by omega
 rw[List.getElem?_map,List.getElem?_eq_getElem hjX,Option.map_some,←getD_lt hjX]at hc
 exact hc
theorem rd_cell {N:Nat→Prop}{w:World}{B off k c:Nat}{X:List Nat}(h:Rd N w (.slice (some ⟨B,off,none⟩) k c) (X.map L64)) {j:Nat}(hj:j<X.length):w.cell? ⟨B,off+j,none⟩=some (L64 (X.getD j 0)):=by
 obtain⟨a,c',e1,-,-,-,h5⟩:=h
 obtain⟨g,off',e2,-,e3⟩:=h5 j (L64 (X.getD j 0)) (by rw[List.getElem?_map,List.getElem?_eq_getElem hj,Option.map_some,getD_lt hj])
 injection e1 with e1
 rw[e2]at e1
 injection e1 with e1
 injection e1 with e1 e4
 subst e1 e4
 exact e3
theorem val_upper {X U:List Nat}{k:Nat}(hlen:X.length=U.length) (ha:∀j,k≤j→X.getD j 0=U.getD j 0) (hU:val BB (U.take k)=val BB U):val BB X=val BB (X.take k):=by
 have e:X.drop k=U.drop k:=by
  apply List.ext_getElem (by rw[List.length_drop,List.length_drop,hlen])
  intro i h1 h2
  rw[List.getElem_drop,List.getElem_drop]
  have:=ha (k+i) (by omega)
  rw[List.length_drop]at h1 h2
  rwa [getD_lt (by omega),getD_lt (by omega)]at this
 have e1:=val_take_drop' BB X k
 have e2:=val_take_drop' BB U k
 rw[hU]at e2
 rw[e]at e1
 omega
theorem guess_up2 {P V:List Nat}{n g:Nat}(hn:2≤n) (hP:P.length=n+1) (hV:V.length=n) (hdP:Dig BB P) (h:val BB P<val BB V*BB) (hg:Guessed P (V.getD (n-1) 0) (V.getD (n-2) 0) g):val BB P<(g+1)*val BB V:=by
 obtain⟨k,rfl⟩:∃k,n=k+2:=⟨n-2,by omega⟩
 exact guess_up hP hV hdP h hg
structure Shifted (w:World) (l m:List Nat) (s:Nat) (BU BV:Nat) (U V:List Nat) (wx:World):Prop where
 bu:w.heap.size≤BU
 bul:BU<wx.heap.size
 bvl:BV<wx.heap.size
 ne:BU≠BV
 ulen:U.length=l.length+1
 udig:Dig BB U
 uval:val BB U=val BB l*2^s
 vlen:V.length=m.length+1
 vdig:Dig BB V
 vval:val BB V=val BB m*2^s
 uown:wx.ownsRow w.heap.size 22 1 (.slice (some ⟨BU,0,none⟩) (l.length+1) (l.length+1)) (l.length+1) (U.map L64)
 vown:wx.ownsRow w.heap.size 22 1 (.slice (some ⟨BV,0,none⟩) (m.length+1) (m.length+1)) (m.length+1) (V.map L64)
 below:Below w.heap.size w wx
theorem own_lt {w:World}{base:Nat}{e:TypeId}{size:Nat}{B k c n:Nat}{xs:List Value}(h:w.ownsRow base e size (.slice (some ⟨B,0,none⟩) k c) n xs):B<w.heap.size:=by
 rcases h.2 with⟨h,-⟩|⟨g,cap,cur,h1,h2,h3,h4⟩
 ·cases h
 ·have e:B=g:=by injection h1 with h1;injection h1 with h1;injection h1
  subst e
  rcases Nat.lt_or_ge B w.heap.size with h|h
  ·exact h
  ·simp[Array.getElem?_eq_none h]at h3
theorem own_base {w:World}{base base':Nat}{e:TypeId}{size:Nat}{B k c n:Nat}{xs:List Value}(h:w.ownsRow base e size (.slice (some ⟨B,0,none⟩) k c) n xs) (hb:base'≤B):w.ownsRow base' e size (.slice (some ⟨B,0,none⟩) k c) n xs:=by
 refine⟨h.1,?_⟩
 rcases h.2 with⟨h,-⟩|⟨g,cap,cur,h1,h2,h3,h4⟩
 ·cases h
 ·have e:B=g:=by injection h1 with h1;injection h1 with h1;injection h1
  subst e
  exact .inr ⟨B,cap,cur,h1,hb,h3,h4⟩
theorem own_below {w w':World}{base:Nat}{e:TypeId}{size:Nat}{B k c n:Nat}{xs:List Value}(h:w.ownsRow base e size (.slice (some ⟨B,0,none⟩) k c) n xs) (hb:Below w.heap.size w w'):w'.ownsRow base e size (.slice (some ⟨B,0,none⟩) k c) n xs:=
 own_fr_at (S:=fun _=>False) h (Fr.of_below hb) (fun h=>h)
theorem Shifted.mk1 {w w1 w2:World}{l m:List Nat}{s:Nat}{U V:List Nat}(hU:U.length=l.length+1∧Dig BB U∧val BB U=val BB l*2^s∧
 w1.ownsRow w.heap.size 22 1 (.slice (some ⟨w.heap.size,0,none⟩) (l.length+1) (l.length+1)) (l.length+1) (U.map L64)∧Below w.heap.size w w1)
 (hV:V.length=m.length+1∧Dig BB V∧val BB V=val BB m*2^s∧
 w2.ownsRow w1.heap.size 22 1 (.slice (some ⟨w1.heap.size,0,none⟩) (m.length+1) (m.length+1)) (m.length+1) (V.map L64)∧Below w1.heap.size w1 w2):
 Shifted w l m s w.heap.size w1.heap.size U V w2:=
 ⟨Nat.le_refl _,Nat.lt_of_lt_of_le (own_lt hU.2.2.2.1) hV.2.2.2.2.size,own_lt hV.2.2.2.1,Nat.ne_of_lt (own_lt hU.2.2.2.1),hU.1,hU.2.1,hU.2.2.1,hV.1,hV.2.1,hV.2.2.1,own_below hU.2.2.2.1 hV.2.2.2.2,own_base hV.2.2.2.1 hU.2.2.2.2.size,
  hU.2.2.2.2.trans (hV.2.2.2.2.mono hU.2.2.2.2.size)⟩
theorem Shifted.divisor {w wx:World}{l m:List Nat}{s BU BV:Nat}{U V:List Nat}(h:Shifted w l m s BU BV U V wx) (hdm:Dig BB m) (h2:2≤m.length) (hY1:9223372036854775808≤m.getD (m.length-1) 0*2^s) (hY2:m.getD (m.length-1) 0*2^s<18446744073709551616):
 val BB (V.take m.length)=val BB m*2^s∧val BB m*2^s<BB^m.length∧9223372036854775808≤V.getD (m.length-1) 0:=by
 obtain⟨n,hn⟩:∃n,m.length=n+1:=⟨m.length-1,by omega⟩
 have hvlen:=h.vlen
 have e1:=val_top1 (B:=BB) hn
 rw[hn]at hvlen
 rw[hn,Nat.add_sub_cancel]at hY1 hY2⊢
 have hlow:=val_lt (hdm.take n)
 rw[List.length_take,hn,Nat.min_eq_left (by omega)]at hlow
 have hP:0<2^s:=Nat.pow_pos (by omega)
 have hBB:BB=18446744073709551616:=rfl
 have hlt:val BB m*2^s<BB^(n+1):=by
  obtain⟨k,hk⟩:∃k,BB=k*2^s:=by
   have hs:s≤64:=by
    rcases Nat.lt_or_ge 64 s with h|h
    ·have:=Nat.pow_le_pow_right (n:=2) (by omega) h
     have h0:1≤m.getD n 0:=by
      rcases Nat.eq_zero_or_pos (m.getD n 0)with h|h
      ·rw[h]at hY1;omega
      ·exact h
     have:=Nat.mul_le_mul h0 this
     omega
    ·exact h
   refine⟨2^(64-s),?_⟩
   rw[←Nat.pow_add,show 64-s+s=64 by omega,BB_pow]
  have h3:m.getD n 0+1≤k:=by
   have h4:m.getD n 0*2^s<k*2^s:=by rw[←hk,hBB];exact hY2
   exact Nat.lt_of_mul_lt_mul_right h4
  have h5:val BB m+1≤BB^n*(m.getD n 0+1):=by rw[Nat.mul_add];omega
  have h6:=Nat.le_trans h5 (Nat.mul_le_mul_left (BB^n) h3)
  have h7:=Nat.mul_le_mul_right (2^s) h6
  rw[Nat.mul_assoc,←hk,←Nat.pow_succ,Nat.add_mul]at h7
  exact Nat.lt_of_lt_of_le (by omega) h7
 have e2:=val_top1 (B:=BB) (n:=n+1) hvlen
 rw[h.vval]at e2
 have hz:V.getD (n+1) 0=0:=by
  rcases Nat.eq_zero_or_pos (V.getD (n+1) 0)with h|h
  ·exact h
  ·have:=Nat.mul_le_mul_left (BB^(n+1)) h
   omega
 rw[hz,Nat.mul_zero,Nat.add_zero]at e2
 refine⟨e2.symm,hlt,?_⟩
 have e3:=val_take_succ BB V n
 rw[←e2,e1]at e3
 have hlv:=val_lt (h.vdig.take n)
 rw[List.length_take,hvlen,Nat.min_eq_left (by omega)]at hlv
 rw[Nat.add_mul,Nat.mul_assoc]at e3
 have h8:BB^n*(m.getD n 0*2^s)<BB^n*(V.getD n 0+1):=by rw[Nat.mul_add];omega
 have:=Nat.lt_of_mul_lt_mul_left h8
 omega
theorem getD_take_lt {X:List Nat}{j k:Nat}(h:j<k):(X.take k).getD j 0=X.getD j 0:=by
 rw[List.getD_eq_getElem?_getD,List.getElem?_take,if_pos h,←List.getD_eq_getElem?_getD]
theorem Shifted.start {w wx:World}{l m:List Nat}{s BU BV:Nat}{U V:List Nat}(h:Shifted w l m s BU BV U V wx) (hdl:Dig BB l) (h2:2≤m.length) (h3:m.length≤l.length) (h4:m.getD (m.length-1) 0≠0):
 LongRel (val BB l*2^s) (val BB m*2^s) m.length (l.length-m.length+1) (l.length-m.length+1) U (List.replicate (l.length-m.length+1) 0):=by
 refine⟨by rw[h.ulen];omega,h.udig,by simp,Dig.replicate BB_pos _,Nat.le_refl _,?_,?_⟩
 ·rw[List.drop_eq_nil_of_le (by simp),val_nil,Nat.mul_zero,Nat.mul_zero,Nat.add_zero,h.uval]
 ·rw[h.uval,Nat.mul_right_comm]
  refine Nat.mul_lt_mul_of_pos_right ?_ (Nat.pow_pos (by omega))
  have e1:=val_top1 (B:=BB) (P:=m) (n:=m.length-1) (by omega)
  have hl:=val_lt hdl
  have h5:BB^(m.length-1)≤val BB m:=by
   have:=Nat.mul_le_mul_left (BB^(m.length-1)) (Nat.pos_of_ne_zero h4)
   omega
  have h6:=Nat.mul_le_mul_right (BB^(l.length-m.length+1)) h5
  rw[←Nat.pow_add,show m.length-1+(l.length-m.length+1)=l.length by omega]at h6
  omega
end Go.Proofs.YtffaefjkpipjnaaGreatDoor
namespace Go.Proofs.YtffaefjkpipjnaaGreatDoor
set_option maxRecDepth 100000
open Go.RowKit
def TwoN (w:World) (a b:Nat) (e:Ending) (w':World):Prop:=
 ∃v u,e= .returned (.tuple #[v,u])∧RdN w' v (digs BB a)∧RdN w' u (digs BB b)∧Below w.heap.size w w'
theorem of_drew {B:Nat}{w w':World}(h:Below B w.drew w'):Below B w w':=⟨h.os,h.tape,h.output,h.size,h.block⟩
structure OutRel (w1 wm:World) (BU BQ LU N D n qn p:Nat) (U Q:List Nat) (wr:World):Prop where
 r:LongRel N D n qn p U Q
 uo:wr.ownsRow w1.heap.size 22 1 (.slice (some ⟨BU,0,none⟩) LU LU) LU (U.map L64)
 qo:wr.ownsRow w1.heap.size 22 1 (.slice (some ⟨BQ,0,none⟩) qn qn) qn (Q.map L64)
 fr:Fr (fun g=>g=BU∨g=BQ) wm wr
structure PutIn (w:World) (BU LU base D u j n:Nat) (X0:List Nat) (q:Nat) (c:Bool) (X:List Nat) (wr:World):Prop where
 o:PartOwn w BU LU base X0 X wr
 above:∀i,j+n+1≤i→X.getD i 0=X0.getD i 0
 rel:InRel D u j n q c (val BB (X.take (j+n+1)))
theorem PutIn.first {w w':World}{N D n m j B LU base g:Nat}{U Q V:List Nat}{c:Bool}(hr:LongRel N D n m (j+1) U Q) (hD:D<BB^n) (hV:V.length=n) (hv:val BB V=D) (hup:val BB (part U j n)<(g+1)*D) (ht:TakeEnd w B LU j base V U g c w'):
 ∃X,PutIn w B LU base D (val BB U) j n U g c X w':=by
 obtain⟨X,ho,ha,hs⟩:=ht
 rw[hV]at ha hs
 rw[hv]at hs
 obtain⟨c1,c2⟩:=hr.cut hD
 rw[←Nat.add_assoc]at c1
 rw[c1]at hs
 refine⟨X,ho,ha,hs,?_⟩
 have h1:=val_lt (hr.udig.take j)
 have hle:=hr.le
 rw[List.length_take,hr.ulen,Nat.min_eq_left (by omega)]at h1
 have h2:BB^j*(val BB (part U j n)+1)≤BB^j*((g+1)*D):=Nat.mul_le_mul_left _ hup
 rw[Nat.mul_add,Nat.mul_one]at h2
 rw[c2,Nat.mul_comm ((g+1)*D)]
 omega
theorem PutIn.back {w wr w':World}{D u n j B LU base q:Nat}{X0 X V:List Nat}{c:Bool}(h:PutIn w B LU base D u j n X0 q true X wr) (hl:j+n+1≤X0.length) (hV:V.length=n) (hv:val BB V=D) (hp:PutEnd wr B LU j base V X c w'):
 q≠0∧∃X',PutIn w B LU base D u j n X0 (q-1) (!c) X' w':=by
 obtain⟨X',ho,ha,hs⟩:=hp
 rw[hV]at ha hs
 rw[hv]at hs
 have hY:=val_lt (h.o.dig.take (j+n+1))
 rw[List.length_take,h.o.len,Nat.min_eq_left hl]at hY
 exact⟨(h.rel.pos hY).2,X',⟨ho.len.trans h.o.len,ho.dig,ho.own,h.o.fr.trans ho.fr⟩,fun i hi=>(ha i hi).trans (h.above i hi),h.rel.back hY hs⟩
theorem PutIn.pos {w wr:World}{D u n j B LU base q:Nat}{X0 X:List Nat}(h:PutIn w B LU base D u j n X0 q true X wr) (hl:j+n+1≤X0.length):q≠0:=by
 have hY:=val_lt (h.o.dig.take (j+n+1))
 rw[List.length_take,h.o.len,Nat.min_eq_left hl]at hY
 exact(h.rel.pos hY).2
theorem PutIn.done {w wr:World}{N D n m j B LU base q:Nat}{U Q X:List Nat}(hr:LongRel N D n m (j+1) U Q) (hD:D<BB^n) (hq:q<BB) (h:PutIn w B LU base D (val BB U) j n U q false X wr):LongRel N D n m j X (Q.set j q):=by
 refine hr.step h.o.len h.o.dig hq ?_
 have c1:=(hr.cut hD).1
 rw[←Nat.add_assoc]at c1
 rw[val_upper h.o.len h.above c1]
 exact h.rel
theorem OutRel.next {w1 wm wr w3 wx:World}{BU BQ LU N D n qn j q:Nat}{U Q X:List Nat}(h:OutRel w1 wm BU BQ LU N D n qn (j+1) U Q wr) (hb:Below wr.heap.size wr w3) (hP:PutIn w3 BU LU w1.heap.size D (val BB U) j n U q false X wx) (hq:q<BB) (hD:D<BB^n) (hne:BU≠BQ):
 OutRel w1 wm BU BQ LU N D n qn j X (Q.set j q) (wx.setCell ⟨BQ,j,none⟩ (L64 q)):=by
 have q1:=own_below h.qo hb
 have q2:=own_fr_at q1 hP.o.fr (fun e=>hne e.symm)
 refine⟨hP.done h.r hD hq,?_,?_,?_⟩
 ·exact own_fr_at (S:=fun g=>g=BQ) hP.o.own ((Fr.refl (fun g=>g=BQ) _).setCell (p:=⟨BQ,j,none⟩) rfl _) hne
 ·rw[List.map_set];exact(q2.stored j _).1
 ·exact((h.fr.trans (Fr.of_below hb)).trans (hP.o.fr.mono (fun _ h=> .inl h))).setCell (p:=⟨BQ,j,none⟩) (.inr rfl) _
theorem OutRel.drew {w1 wm wr:World}{BU BQ LU N D n qn p:Nat}{U Q:List Nat}(h:OutRel w1 wm BU BQ LU N D n qn p U Q wr):OutRel w1 wm BU BQ LU N D n qn p U Q wr.drew:=
 ⟨h.r,h.uo,h.qo,h.fr.drew⟩
end Go.Proofs.YtffaefjkpipjnaaGreatDoor
