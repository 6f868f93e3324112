/- nat.Sub by its contract. Conditions: the lists are short, the limbs are limbs. -/
import Derived.Test.YtffaefjkpipjnaaGreatDoorPkC06
import Derived.Shelf.Spec.BitsCarry
import Derived.Deep.RegionWith
import Derived.Laws.BitsLemmas
import Derived.Laws.Bits64b
import Derived.BigQuiet
import Derived.Deep.DeepCutAuto
import Derived.Deep.CutBlock
import Derived.Deep.QuietTactic
import Derived.Test.YtffaefjkpipjnaaGreatDoorPkC05
namespace Go.Proofs.YtffaefjkpipjnaaGreatDoor
set_option maxRecDepth 100000
open Go.RowKit
def dLo (x y b:Nat):Nat:=(x+BB-y-b)%BB
def dHi (x y b:Nat):Nat:=if x<y+b then 1 else 0
theorem run_sub (x y b:Nat) (hb:b≤1) (w:World):
 (callFunc 131 #[.int .u64 x,.int .u64 y,.int .u64 b]).run Tryz.prog w= .ok (.value (.tuple #[.int .u64 (dLo x y b:Nat),.int .u64 (dHi x y b:Nat)])) w:=by
 rw[run_callFunc_extern Tryz.func131 (by kernel_rfl) (by kernel_rfl) (by kernel_rfl) (e:=sub64Entry) (by kernel_rfl),run_sub64 x y b hb]
 rfl
theorem dHi_le (x y b:Nat):dHi x y b≤1:=by unfold dHi;split<;>omega
theorem dLo_lt (x y b:Nat):dLo x y b<BB:=Nat.mod_lt _ BB_pos
theorem d_eq {x y b:Nat}(hx:x<BB) (hy:y<BB) (hb:b≤1):dLo x y b+y+b=x+BB*dHi x y b:=by
 unfold dLo dHi
 have hB:2≤BB:=BB_two
 generalize BB=M at*
 split
 ·rw[Nat.mod_eq_of_lt (by omega)];omega
 ·rw[show x+M-y-b=x-y-b+M by omega,Nat.add_mod_right,Nat.mod_eq_of_lt (by omega)];omega
structure SubRel (w:World) (l m:List Nat) (k bw:Nat) (X:List Nat) (wr:World):Prop where
 le:k≤l.length
 bw1:bw≤1
 len:X.length=l.length
 dig:Dig BB X
 sum:val BB (X.take k)+val BB (m.take k)=val BB (l.take k)+BB^k*bw
 own:wr.ownsRow w.heap.size 22 1 (.slice (some ⟨w.heap.size,0,none⟩) l.length l.length) l.length (X.map L64)
 below:Below w.heap.size w wr
theorem SubRel.drewN {w wr:World}{l m X:List Nat}{k bw:Nat}(h:SubRel w l m k bw X wr) (n:Nat):SubRel w l m k bw X (wr.drewN n):=⟨h.le,h.bw1,h.len,h.dig,h.sum,h.own,below_drewN h.below n⟩
theorem SubRel.step {w wr:World}{l m X:List Nat}{k bw:Nat}(h:SubRel w l m k bw X wr) (hl:Dig BB l) (hm:Dig BB m) (hk:k<l.length):
 SubRel w l m (k+1) (dHi (l.getD k 0) (m.getD k 0) bw) (X.set k (dLo (l.getD k 0) (m.getD k 0) bw)) (wr.setCell ⟨w.heap.size,k,none⟩ (L64 (dLo (l.getD k 0) (m.getD k 0) bw))):=
 ⟨hk,dHi_le _ _ _,by rw[List.length_set];exact h.len,h.dig.set _ (dLo_lt _ _ _),by
   have e:=d_eq (hl.getD BB_pos k) (hm.getD BB_pos k) h.bw1
   have hs:=h.sum
   have e2:=congrArg (BB^k*·) e
   simp only[Nat.mul_add]at e2
   rw[val_set_take BB X k _ (by rw[h.len];exact hk),val_take_succ,val_take_succ,Nat.pow_succ,Nat.mul_assoc]
   omega,by
   rw[List.map_set];exact(h.own.stored k _).1,h.below.setCell (Nat.le_refl _) _⟩
theorem val_take_le (B:Nat) (l:List Nat) (k:Nat):val B (l.take k)≤val B l:=by
 by_cases hk:k≤l.length
 ·rw[val_take_drop B l k hk];omega
 ·rw[List.take_of_length_le (by omega)];exact Nat.le_refl _
theorem val_take_lt' {B:Nat}{l:List Nat}{k:Nat}(h:val B l<B^k):val B (l.take k)=val B l:=by
 by_cases hk:k≤l.length
 ·have e:=val_take_drop B l k hk
  have:val B (l.drop k)=0:=by
   refine Nat.eq_zero_of_not_pos fun hp=>?_
   have:=Nat.le_mul_of_pos_right (B^k) hp
   omega
  rw[e,this];omega
 ·rw[List.take_of_length_le (by omega)]
theorem SubRel.fin {w wr:World}{l m X:List Nat}{bw:Nat}(h:SubRel w l m l.length bw X wr) (hl:Dig BB l) (hle:val BB m≤val BB l):strip X=digs BB (val BB l-val BB m):=by
 have hs:=h.sum
 have hlt:=val_lt hl
 have hX:=val_lt h.dig
 rw[h.len]at hX
 rw[List.take_length,←h.len,List.take_length,h.len,val_take_lt' (by omega)]at hs
 have hb:bw=0:=by
  rcases(by have:=h.bw1;omega:bw=0∨bw=1)with h0|h0
  ·exact h0
  ·subst h0;omega
 subst hb
 rw[strip_eq BB_two h.dig]
 congr 1;omega
def subR (A B:Nat):Nat×Int:=if A<B then(0,1)else(A-B,0)
set_option maxHeartbeats 800000 in
theorem sub_any {w:World}{v u:Value}{l m:List Nat}(hl:RdN w v l) (hm:RdN w u m) (hdl:Dig BB l) (hdm:Dig BB m) (h1:l.length≤100000) (h2:m.length≤100000):
 Calls Tryz.prog 109 #[v,u] w (OneE w (subR (val BB l) (val BB m))):=by
 have HC:=cmp_any hl hm hdl hdm h1 h2
 obtain⟨a,c,rfl,hac,hc,-,-⟩:=hl.view
 obtain⟨b,d,rfl,hbc,hd,-,-⟩:=hm.view
 obtain⟨i0,hi,hz0,hz1,hz2⟩:=info_parts infoU
 have HL:=Lib.hid hl;have HM:=Lib.hid hm;clear hl hm
 unfold subR
 by_cases hlt:val BB l<val BB m
 ·rw[if_pos hlt]
  rw[cmpN_lt hlt]at HC
  go_enter Tryz.func109,Tryz.ntmps109
  go_wp2_with (go_at_call 102;(with_reducible refine HC.mono ?_);rintro e w1 ⟨rfl,hb1⟩)
  go_ret2
  exact⟨_,rfl,RdN.nil0 _,hb1⟩
 ·rw[if_neg hlt]
  have hge:decide (cmpN (val BB l) (val BB m)<0)=false:=by
   rcases Nat.lt_or_eq_of_le (Nat.le_of_not_lt hlt)with h|h
   ·rw[cmpN_gt h];rfl
   ·rw[h,cmpN_eq];rfl
  generalize cmpN (val BB l) (val BB m)=cq at HC hge
  go_enter Tryz.func109,Tryz.ntmps109
  go_wp2_with (first
   |(go_at_call 102;(with_reducible refine HC.mono ?_);rintro e w1 ⟨rfl,hb1⟩)
   |(at_make;go_loud (refine wpList_make_full _ rfl (.tmp 14) (.tmp 14) 55 rfl w1.heap.size 22 i0 (.int .u64 0) 1 Tryz.underlying55 hi hz0 hz1 .i64 .i64 l.length l.length l.length rfl rfl rfl rfl ?_ ?_ ?_ ?_;(any_goals (first|rfl|(rw[hz2];omega)|(unfold maxLen;omega)|(with_reducible exact Nat.le_refl _)));intro w0 hown0 hgrow0)))
  rw[made_zero]at hown0
  have HS:=Lib.hid (show SubRel w1 l m 0 0 (List.replicate l.length 0) w0 from⟨Nat.zero_le _,by omega,by simp,Dig.replicate BB_pos _,by simp,hown0,(Below.refl _ _).grown hgrow0 (Nat.le_refl _) (by simp)⟩)
  clear hown0 hgrow0
  go_loopw [18,7] (fun i bw wr=>∃(k bw':Nat) (X:List Nat),i= .int .i64 k∧bw=L64 bw'∧SubRel w1 l m k bw' X wr) (fun i _ _=>l.length-(intOf i).toNat)
  case atStart=>exact⟨0,0,_,rfl,rfl,HS.out⟩
  case round=>
   obtain⟨k,bw,X,rfl,rfl,hR⟩:=hrel
   have HR:=Lib.hid hR
   have hbw:=hR.bw1;have hXl:=hR.len;have hkl:=hR.le
   have hB:=hb1.trans (hR.below.mono hb1.size)
   by_cases hk:k<l.length
   ·have RM:=HM.out.below hB
    obtain⟨a1,c1,e1,-,-,-,hcx⟩:=(HL.out.below hB).view
    injection e1 with e1 e2 e3;subst e1 e3
    obtain⟨g,of,rfl,hg,hcx⟩:=hcx k hk
    rw[←List.getD_eq_getElem?_getD]at hcx
    clear e2
    have hca:=hR.own.cellAt k (by omega)
    rw[List.getElem?_map,List.getElem?_eq_getElem (by omega),Option.map_some,←getD_lt]at hca
    have hfr:=hR.own.frozenAt k
    have HS2:=Lib.hid ((hR.drewN 1).step hdl hdm hk)
    clear hR
    generalize X.getD k 0=o at hca
    generalize l.getD k 0=x at*
    have HLm:=limb_nat (RM.below (below_drewN (Below.refl _ _) 1)) (k:=k) (by omega)
    generalize m.getD k 0=y at HLm HS2
    have HLm:=Lib.hid HLm
    go_wp2_with fail
    go_region_with (first
     |(go_at_call 126;refine HLm.out.mono ?_;rintro e w1 ⟨rfl,rfl⟩)
     |simp only[run_sub _ _ _ hbw])
    all_goals
     go_wp2
     go_round
     case rel=>exact⟨k+1,_,_,by go_num,rfl,HS2.out⟩
     case measure=>simp[intOf];omega
   ·have hkl':k=l.length:=by omega
    subst hkl'
    have E:=hR.fin hdl (by omega)
    have RX:RdN _ _ X:=Rd.of_own hR.own (fun _ _=>trivial)
    clear hR
    go_wp2_with (go_at_call 75;(with_reducible refine(bare_any RX ?_).mono ?_);(focus omega);rintro e w3 ⟨v3,rfl,hr,hb3⟩)
    go_ret2
    rw[E]at hr
    exact⟨_,rfl,hr,hB.trans (hb3.mono hB.size)⟩
end Go.Proofs.YtffaefjkpipjnaaGreatDoor
namespace Go.Proofs.YtffaefjkpipjnaaGreatDoor
set_option maxRecDepth 100000
open Go.RowKit
theorem half_up {b d1 d0 u un q r:Nat}(hq:q*d1+r=u) (h:q*d0≤b*r+un):q*(d1*b+d0)≤u*b+un:=by
 have e:q*(d1*b+d0)+r*b=u*b+q*d0:=by
  rw[Nat.mul_add,←Nat.mul_assoc,←hq,Nat.add_mul];omega
 rw[Nat.mul_comm b r]at h
 omega
theorem half_dn {b d1 d0 u un q r:Nat}(hq:q*d1+r=u) (h:b*r+un<q*d0):u*b+un<q*(d1*b+d0):=by
 have e:q*(d1*b+d0)+r*b=u*b+q*d0:=by
  rw[Nat.mul_add,←Nat.mul_assoc,←hq,Nat.add_mul];omega
 rw[Nat.mul_comm b r]at h
 omega
theorem half_big {b D U q:Nat}(h:U<D*b) (hq:b≤q):U<q*D:=by
 have:=Nat.mul_le_mul_right D hq
 rw[Nat.mul_comm D b]at h;omega
theorem half_brk {b d0 un q r:Nat}(hr:b≤r) (hq:q≤b) (hd:d0≤b):q*d0≤b*r+un:=by
 have h1:=Nat.mul_le_mul hq hd
 have h2:=Nat.mul_le_mul_left b hr
 omega
theorem half_start {b d1 d0 u un:Nat}(hb:un<b) (hd:0<d1):u*b+un<(u/d1+1)*(d1*b+d0):=by
 have h1:=Nat.lt_mul_div_succ u hd
 have h2:(u+1)*b≤(u/d1+1)*d1*b:=Nat.mul_le_mul_right b (by rw[Nat.mul_comm];exact h1)
 have h3:(u/d1+1)*d1*b≤(u/d1+1)*(d1*b+d0):=by rw[Nat.mul_assoc];exact Nat.mul_le_mul_left _ (by omega)
 rw[Nat.add_mul]at h2
 omega
theorem half_end {D U q:Nat}(h1:q*D≤U) (h2:U<(q+1)*D):U/D=q∧U-q*D=U%D:=by
 have hd:U/D=q:=Nat.div_eq_of_lt_le h1 h2
 refine⟨hd,?_⟩
 have:=Nat.mod_add_div U D
 rw[hd,Nat.mul_comm]at this
 omega
theorem half_most {b d1 d0 u:Nat}(hu:u<d1*b+d0) (hd0:d0<b) (h2:b≤2*d1) (hd:0<d1):u/d1≤b+1:=by
 have:u<d1*(b+2):=by rw[Nat.mul_add];omega
 have:=(Nat.div_lt_iff_lt_mul hd).2 (by rw[Nat.mul_comm]at this;exact this)
 omega
theorem lz_any {w:World}{y:Nat}(hy:y<18446744073709551616):
 Calls Tryz.prog 135 #[.int .u64 (y:Int)] w fun e w'=>e= .returned (.int .i64 ((64-bitN y:Nat):Int))∧w'=w:=by
 have:=Tryz.bits_LeadingZeros64 y w (by omega) (by omega)
 have h64:bitN y≤64:=bitN_le.2 hy
 rw[Int.toNat_natCast,bitLen_bitN _ hy,show(64:Int)-(bitN y:Int)=((64-bitN y:Nat):Int)by omega]at this
 exact this
theorem shift_top {y s:Nat}(h0:y≠0) (hy:y<18446744073709551616) (hs:64-bitN y=s):s≤63∧9223372036854775808≤y*2^s∧y*2^s<18446744073709551616:=by
 have h1:=bitN_pos h0
 have h64:bitN y≤64:=bitN_le.2 hy
 have h2:=bitN_ge h0
 have h3:=bitN_lt y
 have e1:2^(bitN y-1)*2^s=9223372036854775808:=by rw[←Nat.pow_add,show bitN y-1+s=63 by omega]
 have e2:2^bitN y*2^s=18446744073709551616:=by rw[←Nat.pow_add,show bitN y+s=64 by omega]
 have h4:=Nat.mul_le_mul_right (2^s) h2
 have h5:=Nat.mul_lt_mul_of_pos_right h3 (Nat.pow_pos (n:=s) (show 0<2 by omega))
 exact⟨by omega,by omega,by omega⟩
theorem shift_num {h l P R:Nat}(hPR:P*R=18446744073709551616):(h*18446744073709551616+l)*P/18446744073709551616=h*P+l/R∧(h*18446744073709551616+l)*P%18446744073709551616=l*P%18446744073709551616:=by
 have e:(h*18446744073709551616+l)*P=l*P+18446744073709551616*(h*P):=by
  rw[Nat.add_mul,Nat.mul_right_comm,Nat.mul_comm (h*P)];omega
 have hP:0<P:=Nat.pos_of_ne_zero fun h=>by rw[h]at hPR;omega
 have e2:l*P/18446744073709551616=l/R:=by rw[←hPR,Nat.mul_comm P R];exact Nat.mul_div_mul_right _ _ hP
 rw[e,Nat.add_mul_div_left _ _ (by omega),Nat.add_mul_mod_self_left,e2]
 exact⟨by omega,rfl⟩
theorem or_parts {h l s:Nat}(hs:s≤63) (h1:h*2^s<18446744073709551616) (h2:l<18446744073709551616):bits .or .u64 ((h*2^s:Nat):Int) ((l/2^(64-s):Nat):Int)=((h*2^s+l/2^(64-s):Nat):Int):=by
 have hlt:l/2^(64-s)<2^s:=by
  rw[Nat.div_lt_iff_lt_mul (Nat.pow_pos (by omega)),←Nat.pow_add,show s+(64-s)=64 by omega];exact h2
 have hb:l/2^(64-s)<2^64:=Nat.lt_of_le_of_lt (Nat.div_le_self _ _) h2
 rw[(bits_nat .u64 64 (by decide) (fun n h0 h1=>by rw[IntKind.wrap_u64];omega) (h*2^s) (l/2^(64-s)) h1 hb).2]
 rw[Nat.mul_comm h,Nat.two_pow_add_eq_or_of_lt hlt]
theorem low_half (x:Nat) (hx:x<18446744073709551616):bits .and .u64 (x:Int) 4294967295=((x%4294967296:Nat):Int):=by
 have:=bits_mask .u64 64 (by decide) (fun n h0 h1=>by rw[IntKind.wrap_u64];omega) 32 (by decide) x (by omega) (by omega)
 have e:((2:Int)^32-1)=4294967295:=by decide
 rw[e]at this
 rw[this];omega
structure HalfRel (d1 d0 u un q r:Nat):Prop where
 eq:q*d1+r=u
 up:u*4294967296+un<(q+1)*(d1*4294967296+d0)
 most:q≤4294967297
 small:r<4294967296
theorem HalfRel.start {d1 d0 u un:Nat}(h1:2147483648≤d1) (h2:d1<4294967296) (hd:d0<4294967296) (hu:u<d1*4294967296+d0) (hn:un<4294967296):HalfRel d1 d0 u un (u/d1) (u-u/d1*d1):=by
 have e:=Nat.mod_add_div u d1
 have hm:=Nat.mod_lt u (show 0<d1 by omega)
 rw[Nat.mul_comm]at e
 exact⟨by omega,half_start hn (by omega),half_most hu hd (by omega) (by omega),by omega⟩
theorem HalfRel.fin {d1 d0 u un q r:Nat}(h:HalfRel d1 d0 u un q r) (hq:q*d0≤4294967296*r+un):(u*4294967296+un)/(d1*4294967296+d0)=q∧u*4294967296+un-q*(d1*4294967296+d0)=(u*4294967296+un)%(d1*4294967296+d0):=
 half_end (half_up h.eq hq) h.up
theorem HalfRel.down {d1 d0 u un q r:Nat}(h:HalfRel d1 d0 u un q r) (hu:u<d1*4294967296+d0) (hn:un<4294967296) (hc:4294967296≤q∨4294967296*r+un<q*d0):
 ∃p,q=p+1∧p*d1+(r+d1)=u∧u*4294967296+un<(p+1)*(d1*4294967296+d0)∧p≤4294967296:=by
 have hU:u*4294967296+un<q*(d1*4294967296+d0):=by
  rcases hc with hc|hc
  ·refine half_big ?_ hc
   have:=Nat.mul_le_mul_right 4294967296 (show u+1≤d1*4294967296+d0 from hu)
   rw[Nat.add_mul]at this;omega
  ·exact half_dn h.eq hc
 have hq0:q≠0:=fun h0=>by rw[h0]at hU;omega
 obtain⟨p,rfl⟩:∃p,q=p+1:=⟨q-1,by omega⟩
 have e:=h.eq
 rw[Nat.add_mul]at e
 exact⟨p,rfl,by omega,hU,by have:=h.most;omega⟩
theorem brk {d1 d0 u un p r:Nat}(he:p*d1+r=u) (hU:u*4294967296+un<(p+1)*(d1*4294967296+d0)) (hr:4294967296≤r) (hp:p≤4294967296) (hd:d0<4294967296):
 (u*4294967296+un)/(d1*4294967296+d0)=p∧u*4294967296+un-p*(d1*4294967296+d0)=(u*4294967296+un)%(d1*4294967296+d0):=
 half_end (half_up he (half_brk hr hp (by omega))) hU
end Go.Proofs.YtffaefjkpipjnaaGreatDoor
namespace Go.Proofs.YtffaefjkpipjnaaGreatDoor
set_option maxRecDepth 100000
open Go.RowKit
theorem nn_eq {u x1 x0 x10 M NN b c:Nat}(hc:b*b=c) (h1:u*b+x1=M) (h2:x1*b+x0=x10) (h3:x10+c*u=NN):M*b+x0=NN:=by
 rw[←h3,←h2,←h1,←hc,Nat.add_mul,Nat.mul_comm (b*b) u,Nat.mul_assoc];omega
theorem two_step {M b x0 Y N Q U:Nat}(hY:0<Y) (hN:M*b+x0=N) (hQ:M/Y=Q) (hU:M%Y=U):N/Y=Q*b+(U*b+x0)/Y∧N%Y=(U*b+x0)%Y:=by
 have e:=Nat.mod_add_div M Y
 rw[hQ,hU]at e
 have e2:N=U*b+x0+Y*(Q*b):=by
  rw[←hN,←e,Nat.add_mul,Nat.mul_assoc];omega
 rw[e2,Nat.add_mul_div_left _ _ hY,Nat.add_mul_mod_self_left]
 exact⟨by omega,rfl⟩
theorem quo_small {u b x Y:Nat}(hu:u<Y) (hx:x<b):(u*b+x)/Y<b:=by
 rw[Nat.div_lt_iff_lt_mul (by omega)]
 have:=Nat.mul_le_mul_right b (show u+1≤Y from hu)
 rw[Nat.add_mul]at this;rw[Nat.mul_comm b Y];omega
set_option maxRecDepth 100000 in
set_option maxHeartbeats 2000000 in
theorem div_any {w:World}{h l y:Nat}(hy:h<y) (hy2:y<18446744073709551616) (hl:l<18446744073709551616):
 Calls Tryz.prog 134 #[L64 h,L64 l,L64 y] w (fun e w'=>e= .returned (.tuple #[L64 ((h*BB+l)/y),L64 ((h*BB+l)%y)])∧∃n,w'=w.drewN n):=by
 have y0:((y:Int)==0)=false:=beq_eq_false_iff_ne.2 (by omega)
 have yh:decide ((y:Int)≤(h:Int))=false:=decide_eq_false (by omega)
 by_cases hh:h=0
 ·subst hh
  rw[Nat.zero_mul,Nat.zero_add]
  have e1:(l:Int).tdiv (y:Int)=((l/y:Nat):Int):=by rw[Int.tdiv_eq_ediv_of_nonneg (by omega)];rfl
  have e2:(l:Int).tmod (y:Int)=((l%y:Nat):Int):=by rw[Int.tmod_eq_emod_of_nonneg (by omega)];rfl
  have b1:l/y≤l:=Nat.div_le_self _ _
  have b2:l%y≤l:=Nat.mod_le _ _
  obtain⟨q,hq⟩:∃q,l/y=q:=⟨_,rfl⟩
  obtain⟨r,hr⟩:∃r,l%y=r:=⟨_,rfl⟩
  rw[hq]at e1 b1⊢
  rw[hr]at e2 b2⊢
  have e1':(l:Int)/(y:Int)=(q:Int):=by rw[←hq];rfl
  have e2':(l:Int)%(y:Int)=(r:Int):=by rw[←hr];rfl
  clear hq hr
  go_enter Tryz.func134,Tryz.ntmps134
  go_wp2_with (go_quiet (fail))
  go_ret2
  exact⟨rfl,nq,rfl⟩
 ·have h0:((h:Int)==0)=false:=beq_eq_false_iff_ne.2 (by omega)
  obtain⟨s,hs⟩:∃s,64-bitN y=s:=⟨_,rfl⟩
  have HLZ:=Lib.hid (lz_any (w:=w) hy2)
  rw[hs]at HLZ
  obtain⟨hs63,hY1,hY2⟩:=shift_top (by omega) hy2 hs
  have hPR:2^s*2^(64-s)=18446744073709551616:=by rw[←Nat.pow_add,show s+(64-s)=64 by omega]
  have hN:=shift_num (h:=h) (l:=l) hPR
  have hP:0<2^s:=Nat.pow_pos (by omega)
  have hR:0<2^(64-s):=Nat.pow_pos (by omega)
  have hH:=Nat.mul_le_mul_right (2^s) (show h+1≤y from hy)
  rw[Nat.add_mul,Nat.one_mul]at hH
  have hL:l/2^(64-s)<2^s:=by
   rw[Nat.div_lt_iff_lt_mul hR,hPR];exact hl
  have hor:=or_parts (h:=h) (l:=l) hs63 (by omega) hl
  have hYI:(y:Int)*2^s=((y*2^s:Nat):Int):=by simp
  have hHI:(h:Int)*2^s=((h*2^s:Nat):Int):=by simp
  have hLI:(l:Int)/2^(64-s)=((l/2^(64-s):Nat):Int):=by simp
  have hXI:IntKind.u64.wrap ((l:Int)*2^s)=((l*2^s%18446744073709551616:Nat):Int):=by rw[IntKind.wrap_u64];simp
  have hm1:min s 64=s:=by omega
  have hm2:min ((64:Int)-(s:Int)).toNat 64=64-s:=by omega
  have hfin:(h*18446744073709551616+l)*2^s/(y*2^s)=(h*18446744073709551616+l)/y∧(h*18446744073709551616+l)*2^s%(y*2^s)/2^s=(h*18446744073709551616+l)%y:=by
   rw[Nat.mul_div_mul_right _ _ hP,Nat.mul_mod_mul_right,Nat.mul_div_cancel _ hP]
   exact⟨rfl,rfl⟩
  unfold BB
  rw[←hfin.1,←hfin.2]
  have eN:=Nat.mod_add_div ((h*18446744073709551616+l)*2^s) 18446744073709551616
  rw[hN.1,hN.2]at eN
  generalize (h*18446744073709551616+l)*2^s=NN at*
  generalize y*2^s=Y at*
  have hx10:l*2^s%18446744073709551616<18446744073709551616:=Nat.mod_lt _ (by omega)
  generalize l*2^s%18446744073709551616=x10 at*
  generalize h*2^s=H at*
  generalize l/2^(64-s)=L at*
  obtain⟨u,hu⟩:∃u,H+L=u:=⟨_,rfl⟩
  rw[hu]at hor eN
  have huY:u<Y:=by omega
  obtain⟨d1,hd1⟩:∃d,Y/4294967296=d:=⟨_,rfl⟩
  obtain⟨d0,hd0⟩:∃d,Y%4294967296=d:=⟨_,rfl⟩
  obtain⟨x1,hx1⟩:∃d,x10/4294967296=d:=⟨_,rfl⟩
  obtain⟨x0,hx0⟩:∃d,x10%4294967296=d:=⟨_,rfl⟩
  have hl1:=low_half Y hY2
  have hl2:=low_half x10 hx10
  rw[hd0]at hl1;rw[hx0]at hl2
  have hD1:(Y:Int)/4294967296=(d1:Int):=by omega
  have hX1:(x10:Int)/4294967296=(x1:Int):=by omega
  have hYd:d1*4294967296+d0=Y:=by rw[←hd1,←hd0,Nat.mul_comm];exact Nat.div_add_mod _ _
  have hxd:x1*4294967296+x0=x10:=by rw[←hx1,←hx0,Nat.mul_comm];exact Nat.div_add_mod _ _
  have bd1:2147483648≤d1:=by omega
  have bd2:d1<4294967296:=by omega
  have bd0:d0<4294967296:=by omega
  have bx1:x1<4294967296:=by omega
  have bx0:x0<4294967296:=by omega
  have bH:H<18446744073709551616:=by omega
  have bL:L<18446744073709551616:=by omega
  have hrel:=HalfRel.start bd1 bd2 bd0 (by omega:u<d1*4294967296+d0) bx1
  have hqd:(u/d1)*d1≤u:=Nat.div_mul_le_self u d1
  obtain⟨q,hq⟩:∃q,u/d1=q:=⟨_,rfl⟩
  rw[hq]at hrel hqd
  have hQ:(u:Int)/(d1:Int)=(q:Int):=by rw[←hq];rfl
  have hQ':(u:Int).tdiv (d1:Int)=(q:Int):=by rw[Int.tdiv_eq_ediv_of_nonneg (by omega)];exact hQ
  obtain⟨qd,hqd2⟩:∃c,q*d1=c:=⟨_,rfl⟩
  rw[hqd2]at hrel hqd
  have hQD:(q:Int)*(d1:Int)=(qd:Int):=by rw[←hqd2,Int.natCast_mul]
  obtain⟨r,hr⟩:∃r,u-qd=r:=⟨_,rfl⟩
  have hRR:(u:Int)-(qd:Int)=(r:Int):=by omega
  rw[hr]at hrel
  have bq:=hrel.most
  have br:=hrel.small
  have d1z:((d1:Int)==0)=false:=beq_eq_false_iff_ne.2 (by omega)
  have HR:=Lib.hid hrel;clear hrel
  clear hs hH hN hd1 hd0 hx1 hx0 hq hqd2 hPR
  go_enter Tryz.func134,Tryz.ntmps134
  obtain⟨M,hM⟩:∃M,u*4294967296+x1=M:=⟨_,rfl⟩
  have hQb:=quo_small huY bx1
  rw[hM]at hQb
  have HMM:=Lib.hid hM
  clear hM
  go_upto_block 0 with(go_at_call 135;(with_reducible refine HLZ.out.mono ?_);rintro e w1 ⟨rfl,rfl⟩)
  go_cut [15,16] (fun q r wx=>(∃r',r= .int .u64 r')∧q= .int .u64 ((M/Y:Nat):Int)∧wx=w1)
  case first=>
   clear hfin eN hor hYI hHI hLI hXI hm1 hm2 hP hR hL hh hy hl hy2 yh y0 h0 hu hxd hl1 hl2 hD1 hX1 hQ hQ' hQD hRR hr hqd hx10 bH bL bq br HLZ
   go_wp2
   go_loopw [15,16] (fun q r wr=>∃q' r':Nat,q= .int .u64 q'∧r= .int .u64 r'∧HalfRel d1 d0 u x1 q' r'∧wr=w1) (fun q _ _=>(intOf q).toNat)
   case atStart=>exact⟨q,r,rfl,rfl,HR.out,rfl⟩
   case round=>
    clear HR
    obtain⟨q,r,rfl,rfl,hR,rfl⟩:=hrel
    have HR:=Lib.hid hR
    have bq:=hR.most;have br:=hR.small
    clear hR
    obtain⟨z,hz⟩:∃z,q*d0=z:=⟨_,rfl⟩
    have hzb:z≤18446744073709551615:=by rw[←hz];exact Nat.mul_le_mul bq (show d0≤4294967295 by omega)
    have hzI:(q:Int)*(d0:Int)=(z:Int):=by rw[←hz,Int.natCast_mul]
    by_cases hc:4294967296≤q∨4294967296*r+x1<q*d0
    ·obtain⟨p,hqp0,he,hU,hp⟩:=HR.out.down (by rw[hYd];exact huY) bx1 hc
     have hqp:(q:Int)-1=(p:Int):=by omega
     have hq1:1≤q:=by omega
     rw[hz]at hc
     have HE:=Lib.hid (And.intro he hU)
     have HM:=Lib.hid (show p<q∧p≤4294967296 from⟨by omega,hp⟩)
     clear he hU hz hqp0
     obtain⟨t,ht⟩:∃t,r+d1=t:=⟨_,rfl⟩
     have htI:(r:Int)+(d1:Int)=(t:Int):=by omega
     have htb:t≤8589934592:=by omega
     rw[ht]at HE
     clear ht hp
     have hgo:(decide ((4294967296:Int)≤(q:Int))=true)∨(decide ((4294967296:Int)≤(q:Int))=false∧decide ((4294967296:Int)*(r:Int)+(x1:Int)<(z:Int))=true):=by
      by_cases h1:4294967296≤q
      ·exact .inl (decide_eq_true (by omega))
      ·exact .inr ⟨decide_eq_false (by omega),decide_eq_true (by omega)⟩
     clear hc
     by_cases hbr:4294967296≤t
     ·have HB:=brk HE.out.1 HE.out.2 hbr (HM.out.2) bd0
      rw[hYd,HMM.out]at HB
      have HB:=Lib.hid HB.1
      have dbr:=decide_eq_true (show(4294967296:Int)≤(t:Int)by omega)
      clear hbr
      rcases hgo with dge|⟨dge,dgt⟩
      all_goals
       go_wp2
       go_meet
       exact⟨⟨t,rfl⟩,by rw[HB.out],rfl⟩
     ·have dbr:=decide_eq_false (show¬(4294967296:Int)≤(t:Int)by omega)
      have HN:=Lib.hid (⟨HE.out.1,HE.out.2,by have:=HM.out.2;omega,by omega⟩:HalfRel d1 d0 u x1 p t)
      clear hbr
      rcases hgo with dge|⟨dge,dgt⟩
      all_goals
       go_wp2
       go_round
       case rel=>exact⟨p,t,rfl,rfl,HN.out,trivial⟩
       case measure=>simp[intOf];exact HM.out.1
    ·have HB:=HR.out.fin (by omega)
     rw[hYd,HMM.out]at HB
     have HB:=Lib.hid HB.1
     rw[hz]at hc
     have dge:=decide_eq_false (show¬(4294967296:Int)≤(q:Int)by omega)
     have dgt:=decide_eq_false (show¬(4294967296:Int)*(r:Int)+(x1:Int)<(z:Int)by omega)
     clear hc hz
     go_wp2
     go_meet
     exact⟨⟨r,rfl⟩,by rw[HB.out],rfl⟩
  case rest=>
   obtain⟨⟨r1,rfl⟩,rfl,rfl⟩:=hcut
   have hM:=HMM.out
   have hm2':=Nat.mod_add_div M Y
   have hu2:=Nat.mod_lt M (show 0<Y by omega)
   obtain⟨Q1,hQ1⟩:∃q,M/Y=q:=⟨_,rfl⟩
   obtain⟨U2,hU2⟩:∃q,M%Y=q:=⟨_,rfl⟩
   have hs2:=two_step (b:=4294967296) (x0:=x0) (N:=NN) (by omega) (nn_eq (by decide) hM hxd eN) hQ1 hU2
   rw[hQ1]at hm2' hQb⊢
   rw[hU2]at hm2' hu2
   have hW:IntKind.u64.wrap (IntKind.u64.wrap (IntKind.u64.wrap ((u:Int)*4294967296)+(x1:Int))-IntKind.u64.wrap ((Q1:Int)*(Y:Int)))=(U2:Int):=by
    have e:(U2:Int)+(Y:Int)*(Q1:Int)=(M:Int):=by exact_mod_cast hm2'
    rw[Int.mul_comm]at e
    generalize (Q1:Int)*(Y:Int)=z at e⊢
    simp only[IntKind.wrap_u64]
    omega
   have HS2:=Lib.hid hs2
   clear hs2 hQ1 hU2 hM HMM
   clear hfin hor hYI hHI hLI hXI hm1 hm2 hP hL hh hy hl hy2 yh y0 h0 hu hxd hl1 hl2 hD1 hX1 hQ hQ' hQD hRR hr hqd hx10 bH bL bq br HLZ HR eN hm2'
   have hrel:=HalfRel.start bd1 bd2 bd0 (by rw[hYd];exact hu2) bx0
   have hqd:(U2/d1)*d1≤U2:=Nat.div_mul_le_self U2 d1
   obtain⟨q,hq⟩:∃q,U2/d1=q:=⟨_,rfl⟩
   rw[hq]at hrel hqd
   have hQ:(U2:Int)/(d1:Int)=(q:Int):=by rw[←hq];rfl
   have hQ':(U2:Int).tdiv (d1:Int)=(q:Int):=by rw[Int.tdiv_eq_ediv_of_nonneg (by omega)];exact hQ
   obtain⟨qd,hqd2⟩:∃c,q*d1=c:=⟨_,rfl⟩
   rw[hqd2]at hrel hqd
   have hQD:(q:Int)*(d1:Int)=(qd:Int):=by rw[←hqd2,Int.natCast_mul]
   obtain⟨r,hr⟩:∃r,U2-qd=r:=⟨_,rfl⟩
   have hRR:(U2:Int)-(qd:Int)=(r:Int):=by omega
   rw[hr]at hrel
   have bq:=hrel.most
   have br:=hrel.small
   have HR:=Lib.hid hrel;clear hrel
   clear hq hqd2 hr
   obtain⟨M,hM⟩:∃M,U2*4294967296+x0=M:=⟨_,rfl⟩
   have hQ2b:=quo_small hu2 bx0
   rw[hM]at hQ2b HS2
   have HMM:=Lib.hid hM
   clear hM
   go_upto_block 2 with fail
   go_cut [16,18] (fun r q wx=>(∃r',r= .int .u64 r')∧q= .int .u64 ((M/Y:Nat):Int)∧wx=wc)
   case first=>
    go_wp2
    go_loopw [18,16] (fun q r wr=>∃q' r':Nat,q= .int .u64 q'∧r= .int .u64 r'∧HalfRel d1 d0 U2 x0 q' r'∧wr=wc) (fun q _ _=>(intOf q).toNat)
    case atStart=>exact⟨q,r,rfl,rfl,HR.out,rfl⟩
    case round=>
     clear HR
     obtain⟨q,r,rfl,rfl,hR,rfl⟩:=hrel
     have HR:=Lib.hid hR
     have bq:=hR.most;have br:=hR.small
     clear hR
     obtain⟨z,hz⟩:∃z,q*d0=z:=⟨_,rfl⟩
     have hzb:z≤18446744073709551615:=by rw[←hz];exact Nat.mul_le_mul bq (show d0≤4294967295 by omega)
     have hzI:(q:Int)*(d0:Int)=(z:Int):=by rw[←hz,Int.natCast_mul]
     by_cases hc:4294967296≤q∨4294967296*r+x0<q*d0
     ·obtain⟨p,hqp0,he,hU,hp⟩:=HR.out.down (by rw[hYd];exact hu2) bx0 hc
      have hqp:(q:Int)-1=(p:Int):=by omega
      have hq1:1≤q:=by omega
      rw[hz]at hc
      have HE:=Lib.hid (And.intro he hU)
      have HM:=Lib.hid (show p<q∧p≤4294967296 from⟨by omega,hp⟩)
      clear he hU hz hqp0
      obtain⟨t,ht⟩:∃t,r+d1=t:=⟨_,rfl⟩
      have htI:(r:Int)+(d1:Int)=(t:Int):=by omega
      have htb:t≤8589934592:=by omega
      rw[ht]at HE
      clear ht hp
      have hgo:(decide ((4294967296:Int)≤(q:Int))=true)∨(decide ((4294967296:Int)≤(q:Int))=false∧decide ((4294967296:Int)*(r:Int)+(x0:Int)<(z:Int))=true):=by
       by_cases h1:4294967296≤q
       ·exact .inl (decide_eq_true (by omega))
       ·exact .inr ⟨decide_eq_false (by omega),decide_eq_true (by omega)⟩
      clear hc
      by_cases hbr:4294967296≤t
      ·have HB:=brk HE.out.1 HE.out.2 hbr (HM.out.2) bd0
       rw[hYd,HMM.out]at HB
       have HB:=Lib.hid HB.1
       have dbr:=decide_eq_true (show(4294967296:Int)≤(t:Int)by omega)
       clear hbr
       rcases hgo with dge|⟨dge,dgt⟩
       all_goals
        go_wp2
        go_meet
        exact⟨⟨t,rfl⟩,by rw[HB.out],rfl⟩
      ·have dbr:=decide_eq_false (show¬(4294967296:Int)≤(t:Int)by omega)
       have HN:=Lib.hid (⟨HE.out.1,HE.out.2,by have:=HM.out.2;omega,by omega⟩:HalfRel d1 d0 U2 x0 p t)
       clear hbr
       rcases hgo with dge|⟨dge,dgt⟩
       all_goals
        go_wp2
        go_round
        case rel=>exact⟨p,t,rfl,rfl,HN.out,trivial⟩
        case measure=>simp[intOf];exact HM.out.1
     ·have HB:=HR.out.fin (by omega)
      rw[hYd,HMM.out]at HB
      have HB:=Lib.hid HB.1
      rw[hz]at hc
      have dge:=decide_eq_false (show¬(4294967296:Int)≤(q:Int)by omega)
      have dgt:=decide_eq_false (show¬(4294967296:Int)*(r:Int)+(x0:Int)<(z:Int)by omega)
      clear hc hz
      go_wp2
      go_meet
      exact⟨⟨r,rfl⟩,by rw[HB.out],rfl⟩
   case rest=>
    obtain⟨⟨r2,rfl⟩,rfl,rfl⟩:=hcut
    have hM:=HMM.out
    have hm2':=Nat.mod_add_div M Y
    have hu3:=Nat.mod_lt M (show 0<Y by omega)
    obtain⟨Q2,hQ2⟩:∃q,M/Y=q:=⟨_,rfl⟩
    obtain⟨U3,hU3⟩:∃q,M%Y=q:=⟨_,rfl⟩
    rw[hQ2]at hm2' hQ2b HS2⊢
    rw[hU3]at hm2' hu3 HS2
    have hW2:IntKind.u64.wrap (IntKind.u64.wrap (IntKind.u64.wrap ((U2:Int)*4294967296)+(x0:Int))-IntKind.u64.wrap ((Q2:Int)*(Y:Int)))=(U3:Int):=by
     have e:(U3:Int)+(Y:Int)*(Q2:Int)=(M:Int):=by exact_mod_cast hm2'
     rw[Int.mul_comm]at e
     generalize (Q2:Int)*(Y:Int)=z at e⊢
     simp only[IntKind.wrap_u64]
     omega
    have hm1:min s 64=s:=by omega
    have hsh:(U3:Int)/2^s=((U3/2^s:Nat):Int):=by simp
    have hUs:U3/2^s≤U3:=Nat.div_le_self _ _
    obtain⟨U4,hU4⟩:∃x,U3/2^s=x:=⟨_,rfl⟩
    have HF:=Lib.hid (show NN/Y=Q1*4294967296+Q2∧NN%Y/2^s=U4 from⟨HS2.out.1,by rw[HS2.out.2];exact hU4⟩)
    rw[hU4]at hsh hUs
    clear hQ2 hU3 hM HMM HS2 hm2' hR hU4
    go_wp2
    go_ret2
    refine⟨?_,0,rfl⟩
    rw[HF.out.1,HF.out.2]
    simp[L64]
end Go.Proofs.YtffaefjkpipjnaaGreatDoor
namespace Go.Proofs.YtffaefjkpipjnaaGreatDoor
set_option maxRecDepth 100000
open Go.RowKit
structure SmRel (w:World) (l:List Nat) (n p rest:Nat) (X:List Nat) (wr:World):Prop where
 le:p≤l.length
 small:rest<n
 len:X.length=l.length
 dig:Dig BB X
 sum:val BB (X.drop p)*n+rest=val BB (l.drop p)
 own:wr.ownsRow w.heap.size 22 1 (.slice (some ⟨w.heap.size,0,none⟩) l.length l.length) l.length (X.map L64)
 below:Below w.heap.size w wr
theorem SmRel.drewN {w wr:World}{l X:List Nat}{n p rest:Nat}(h:SmRel w l n p rest X wr) (d:Nat):SmRel w l n p rest X (wr.drewN d):=⟨h.le,h.small,h.len,h.dig,h.sum,h.own,below_drewN h.below d⟩
theorem drop_set_self (l:List Nat) (i x:Nat) (h:i<l.length):(l.set i x).drop i=x::l.drop (i+1):=by
 rw[List.drop_eq_getElem_cons (by rw[List.length_set];exact h),List.getElem_set_self,List.drop_set_of_lt (by omega)]
theorem SmRel.step {w wr:World}{l X:List Nat}{n i rest:Nat}(h:SmRel w l n (i+1) rest X wr) (hd:Dig BB l):
 SmRel w l n i ((rest*BB+l.getD i 0)%n) (X.set i ((rest*BB+l.getD i 0)/n)) (wr.setCell ⟨w.heap.size,i,none⟩ (L64 ((rest*BB+l.getD i 0)/n))):=by
 have hle:=h.le
 have hn:0<n:=Nat.lt_of_le_of_lt (Nat.zero_le _) h.small
 have hx:=hd.getD BB_pos i
 have hq:=quo_small h.small hx
 have e:=Nat.mod_add_div (rest*BB+l.getD i 0) n
 refine⟨by omega,Nat.mod_lt _ hn,by rw[List.length_set];exact h.len,h.dig.set _ hq,?_,by rw[List.map_set];exact(h.own.stored i _).1,h.below.setCell (Nat.le_refl _) _⟩
 have hs:=h.sum
 generalize (rest*BB+l.getD i 0)/n=q at*
 generalize (rest*BB+l.getD i 0)%n=r at*
 rw[drop_set_self X i _ (by rw[h.len];omega),val_cons,val_drop_succ BB l i (by omega),←hs,Nat.add_mul,Nat.mul_add,Nat.mul_assoc]
 rw[Nat.mul_comm rest BB]at e
 rw[Nat.mul_comm n q]at e
 omega
theorem SmRel.fin {w wr:World}{l X:List Nat}{n rest:Nat}(h:SmRel w l n 0 rest X wr):strip X=digs BB (val BB l/n)∧rest=val BB l%n:=by
 have hs:=h.sum
 rw[List.drop_zero,List.drop_zero]at hs
 have hn:0<n:=Nat.lt_of_le_of_lt (Nat.zero_le _) h.small
 have hd:val BB l/n=val BB X:=by
  rw[←hs,Nat.mul_comm,Nat.mul_add_div hn,Nat.div_eq_of_lt h.small,Nat.add_zero]
 have hm:val BB l%n=rest:=by
  rw[←hs,Nat.mul_comm,Nat.mul_add_mod,Nat.mod_eq_of_lt h.small]
 exact⟨by rw[strip_eq BB_two h.dig,hd],hm.symm⟩
def OneLE (w:World) (r:Nat×Nat×Int) (e:Ending) (w':World):Prop:=
 ∃v,e= .returned (.tuple #[v,L64 r.2.1,.int .i64 r.2.2])∧RdN w' v (digs BB r.1)∧Below w.heap.size w w'
def smallR (A n:Nat):Nat×Nat×Int:=if n=0 then(0,0,1)else(A/n,A%n,0)
set_option maxHeartbeats 800000 in
theorem qsmall_any {w:World}{v:Value}{l:List Nat}{n:Nat}(hl:RdN w v l) (hdl:Dig BB l) (h1:l.length≤100000) (hn:n<BB):
 Calls Tryz.prog 124 #[v,L64 n] w (OneLE w (smallR (val BB l) n)):=by
 obtain⟨a,c,rfl,hac,hc,-,-⟩:=hl.view
 obtain⟨i0,hi,hz0,hz1,hz2⟩:=info_parts infoU
 have HL:=Lib.hid hl;clear hl
 have hn64:n<18446744073709551616:=hn
 unfold smallR
 by_cases h0:n=0
 ·subst h0
  rw[if_pos rfl]
  go_enter Tryz.func124,Tryz.ntmps124
  go_wp2
  go_ret3
  exact⟨_,rfl,RdN.nil0 _,Below.refl _ _⟩
 ·rw[if_neg h0]
  have hz:((n:Int)==0)=false:=beq_eq_false_iff_ne.2 (by omega)
  go_enter Tryz.func124,Tryz.ntmps124
  go_wp2_with (at_make;go_loud (refine wpList_make_full _ rfl (.tmp 13) (.tmp 13) 55 rfl w.heap.size 22 i0 (.int .u64 0) 1 Tryz.underlying55 hi hz0 hz1 .i64 .i64 l.length l.length l.length rfl rfl rfl rfl ?_ ?_ ?_ ?_;(any_goals (first|rfl|(rw[hz2];omega)|(unfold maxLen;omega)|(with_reducible exact Nat.le_refl _)));intro w0 hown0 hgrow0))
  rw[made_zero]at hown0
  have HS:=Lib.hid (show SmRel w l n l.length 0 (List.replicate l.length 0) w0 from⟨Nat.le_refl _,by omega,by simp,Dig.replicate BB_pos _,by rw[List.drop_eq_nil_of_le (by simp),List.drop_eq_nil_of_le (by simp)];simp,hown0,(Below.refl _ _).grown hgrow0 (Nat.le_refl _) (by simp)⟩)
  clear hown0 hgrow0
  go_loopw [8,9] (fun rest i wr=>∃(p r:Nat) (q:Int) (X:List Nat),i= .int .i64 q∧q+1=p∧rest=L64 r∧SmRel w l n p r X wr) (fun _ i _=>(intOf i+1).toNat)
  case atStart=>exact⟨l.length,0,_,_,rfl,by omega,rfl,HS.out⟩
  case round=>
   obtain⟨p,r,q,X,rfl,hq,rfl,hR⟩:=hrel
   have HR:=Lib.hid hR
   have hp:=hR.le;have hrn:=hR.small;have hXl:=hR.len
   have hB:=hR.below
   by_cases hp0:p=0
   ·subst hp0
    obtain rfl:q= -1:=by omega
    obtain⟨E,Er⟩:=hR.fin
    have RX:=Lib.hid (show RdN wr _ X from Rd.of_own hR.own (fun _ _=>trivial))
    clear hR
    go_wp2_with (go_at_call 75;(with_reducible refine(bare_any RX.out (by omega)).mono ?_);rintro e w3 ⟨v3,rfl,hr,hb3⟩)
    go_ret3
    rw[E]at hr
    exact⟨_,rfl,hr,hB.trans (hb3.mono hB.size)⟩
   ·obtain⟨i,rfl⟩:∃i,p=i+1:=⟨p-1,by omega⟩
    obtain rfl:q=(i:Int):=by omega
    have hil:i<l.length:=hp
    obtain⟨a1,c1,e1,-,-,-,hcx⟩:=(HL.out.below hB).view
    injection e1 with e1 e2 e3;subst e1 e3
    obtain⟨g,of,rfl,hg,hcx⟩:=hcx i hil
    rw[←List.getD_eq_getElem?_getD]at hcx
    clear e2
    have hca:=hR.own.cellAt i (by omega)
    rw[List.getElem?_map,List.getElem?_eq_getElem (by omega),Option.map_some,←getD_lt]at hca
    have hfr:=hR.own.frozenAt i
    have hx:=hdl.getD BB_pos i
    have HS2:=Lib.hid (fun d=>(hR.drewN d).step hdl)
    clear hR
    generalize X.getD i 0=o at hca
    generalize l.getD i 0=x at*
    have HD:=Lib.hid (fun w=>div_any (w:=w) (l:=x) hrn hn64 hx)
    obtain⟨qq,hqq⟩:∃t,(r*BB+x)/n=t:=⟨_,rfl⟩
    obtain⟨rr,hrr⟩:∃t,(r*BB+x)%n=t:=⟨_,rfl⟩
    rw[hqq,hrr]at HD HS2
    clear hqq hrr
    go_wp2_with (go_at_call 134;(with_reducible refine(HD.out _).mono ?_);rintro e w1 ⟨rfl,nd,rfl⟩;have hca2:(wr.drewN nd).cell? ⟨w.heap.size,i,none⟩=some (L64 o):=hca;have hfr2:(wr.drewN nd).frozen? ⟨w.heap.size,i,none⟩=false:=hfr)
    go_round
    case rel=>exact⟨i,rr,(i:Int)-1,_,rfl,by omega,rfl,HS2.out _⟩
    case measure=>simp[intOf]
end Go.Proofs.YtffaefjkpipjnaaGreatDoor
