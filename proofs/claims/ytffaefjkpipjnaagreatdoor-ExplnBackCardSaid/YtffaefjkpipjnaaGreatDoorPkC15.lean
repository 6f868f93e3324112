/- The bits and flags of whatever is rounded: plainly. Conditions: none. -/
import Derived.Test.YtffaefjkpipjnaaGreatDoorPkC14
import Derived.Test.YtffaefjkpipjnaaGreatDoorPkC01
import Derived.Deep.RegionWith
namespace Go.Proofs.YtffaefjkpipjnaaGreatDoor
set_option maxRecDepth 100000
open Go.RowKit
set_option linter.unusedVariables false
def unitB (top:Int):Int:=max (top-52) (-1074)
def sizeB (n:Bool) (M:Nat) (E:Int) (more:Bool) (dir:Int):Nat:=(wholeP n M E more dir (unitB (topD ⟨n,M,E⟩))).1+(unitB (topD ⟨n,M,E⟩)+1074).toNat*4503599627370496
def flagB (n:Bool) (M:Nat) (E:Int) (more:Bool) (dir:Int):Int:=if sizeB n M E more dir=9218868437227405312 then 5 else if(wholeP n M E more dir (unitB (topD ⟨n,M,E⟩))).2=true then(if topD ⟨n,M,E⟩< -1022 then 3 else 1)else 0
def toB (n:Bool) (M:Nat) (E:Int) (more:Bool) (dir:Int):Nat×Int:=
 if 1023<topD ⟨n,M,E⟩then(overB n dir,5)else if topD ⟨n,M,E⟩< -1075 then(underB n dir,3)else(signedB (sizeB n M E more dir) n,flagB n M E more dir)
theorem bitN_div (M k:Nat):bitN (M/2^k)=bitN M-k:=by
 have hp:=Nat.two_pow_pos k
 apply Nat.le_antisymm
 ·refine bitN_le.2 ((Nat.div_lt_iff_lt_mul hp).2 ?_)
  rw[←Nat.pow_add]
  exact Nat.lt_of_lt_of_le (bitN_lt M) (Nat.pow_le_pow_right (by decide) (by omega))
 ·rcases Nat.lt_or_ge k (bitN M)with h|h
  ·have h1:2^(bitN M-1)≤M:=lt_bitN.1 (by omega)
   have h2:2^(bitN M-k-1)≤M/2^k:=by
    rw[Nat.le_div_iff_mul_le hp,←Nat.pow_add]
    exact Nat.le_trans (Nat.pow_le_pow_right (by decide) (by omega)) h1
   have:=lt_bitN.2 h2
   omega
  ·omega
theorem parts_bits {n:Bool}{M:Nat}{E top:Int}(h0:M≠0) (ht:topD ⟨n,M,E⟩=top):(bitN (partsP M E (unitB top)).1:Int)=max (top+1-unitB top) 0:=by
 unfold topD at ht
 dsimp only at ht
 have hb:=bitN_pos h0
 unfold partsP
 split
 ·rename_i hle
  show((bitN (M*2^(E-unitB top).toNat):Nat):Int)=_
  rw[bitN_shift h0];omega
 ·rename_i hle
  show((bitN (M/2^(unitB top-E).toNat):Nat):Int)=_
  rw[bitN_div];omega
theorem bits53 {q:Nat}(h:bitN q≤53):q<9007199254740992:=bitN_le.1 h
theorem bits52 {q:Nat}(h:52<bitN q):4503599627370496≤q:=lt_bitN.1 h
theorem whole_le {n more:Bool}{M:Nat}{E dir top:Int}(h0:M≠0) (ht:topD ⟨n,M,E⟩=top):(wholeP n M E more dir (unitB top)).1≤9007199254740992∧(unitB top≠-1074→4503599627370496≤(wholeP n M E more dir (unitB top)).1):=by
 have h1:=parts_bits h0 ht
 have hu:unitB top=max (top-52) (-1074):=rfl
 have h2:(wholeP n M E more dir (unitB top)).1=(partsP M E (unitB top)).1∨(wholeP n M E more dir (unitB top)).1=(partsP M E (unitB top)).1+1:=by
  unfold wholeP
  dsimp only
  split
  ·exact .inr rfl
  ·exact .inl (Nat.add_zero _)
 have h3:bitN (partsP M E (unitB top)).1≤53:=by omega
 have h4:=bits53 h3
 constructor
 ·omega
 ·intro hne
  have h5:52<bitN (partsP M E (unitB top)).1:=by omega
  have:=bits52 h5
  omega
theorem fit_top {b q:Nat}{u:Int}(h54:b=54↔q=9007199254740992) (hb:b≤54) (h53:b=53→4503599627370496≤q) (hl:53≤b∨u= -1074) (hu: -1074≤u) (hu2:u≤971) (hs:q+(u+1074).toNat*4503599627370496<9218868437227405312):(b:Int)-1+u≤1023:=by
 by_cases c:b=54
 ·have:=h54.1 c;omega
 ·omega
theorem big_top {b q:Nat}{u:Int}(h54:b=54↔q=9007199254740992) (hq:q≤9007199254740992) (hu: -1074≤u) (hu2:u≤971) (hs:9218868437227405312≤q+(u+1074).toNat*4503599627370496):1023<(b:Int)-1+u:=by
 have h1:q=9007199254740992:=by omega
 have:=h54.2 h1
 omega
theorem exact_size {n:Bool}{q M2:Nat}{u E2:Int}(h0:q≠0) (hq:q≤9007199254740992) (hu: -1074≤u) (hu2:u≤971) (hl:u≠-1074→4503599627370496≤q) (e:bareD ⟨n,q,u⟩=⟨n,M2,E2⟩):
 M2%2=1∧bitN M2≤54∧-1074≤E2∧E2≤1024∧(q+(u+1074).toNat*4503599627370496<9218868437227405312→topD ⟨n,M2,E2⟩≤1023∧max (topD ⟨n,M2,E2⟩-52) (-1074)≤E2∧exactB n M2 E2=(signedB (q+(u+1074).toNat*4503599627370496) n,true))∧
 (9218868437227405312≤q+(u+1074).toNat*4503599627370496→1023<topD ⟨n,M2,E2⟩):=by
 rw[bareD_pos h0]at e
 dsimp only at e
 obtain⟨m,hm⟩:=low2_eq h0
 have ho:=odd_eq hm
 have hll:=low2_lt h0
 have hl53:q=9007199254740992→low2 q=53:=fun h=>low2_uniq (m:=0) (by rw[h])
 rw[ho,show cutE u=u by unfold cutE;omega]at e
 injection e with _ e2 e3
 generalize low2 q=l at*
 have hM:q=M2*2^l:=by rw[←e2,Nat.mul_comm];exact hm
 have hM0:M2≠0:=by omega
 have hb:bitN q=bitN M2+l:=by rw[hM,bitN_shift hM0]
 have hb1:=bitN_pos hM0
 have hq54:bitN q≤54:=bitN_le.2 (Nat.lt_of_le_of_lt hq (by decide))
 have htop:topD ⟨n,M2,E2⟩=(bitN q:Int)-1+u:=by unfold topD;dsimp only;omega
 have hlo:53≤bitN q∨u= -1074:=by
  by_cases c:u= -1074
  ·exact .inr c
  ·exact .inl (lt_bitN.2 (show 2^52≤q from hl c))
 have h54:bitN q=54↔q=9007199254740992:=by
  constructor
  ·intro h
   have:=lt_bitN.1 (show 53<bitN q by omega)
   have:9007199254740992≤q:=this
   omega
  ·intro h
   have:=lt_bitN.2 (show 2^53≤q by rw[h];decide)
   omega
 have hl54:bitN q=54→l=53:=fun h=>hl53 (h54.1 h)
 have h53:bitN q=53→4503599627370496≤q∧q<9007199254740992:=fun h=>⟨bits52 (by omega),bits53 (by omega)⟩
 have h52:bitN q≤52→q<4503599627370496:=fun h=>bitN_le.1 h
 refine⟨by omega,by omega,by omega,by omega,fun hs=>?_,fun hs=>?_⟩
 ·have hc:bitN q=54∨bitN q=53∨bitN q≤52:=by clear hM e2 e3;omega
  have ht:(bitN q:Int)-1+u≤1023:=fit_top h54 hq54 (fun h=>(h53 h).1) hlo hu hu2 hs
  rw[htop]
  refine⟨ht,by omega,?_⟩
  unfold exactB
  rw[if_neg hM0,htop,if_neg (by omega)]
  congr 2
  rcases hc with c|c|c
  ·have hq2:=h54.1 c
   obtain⟨z,hz⟩:∃z,(E2-max ((bitN q:Int)-1+u-52) (-1074)).toNat=z:=⟨_,rfl⟩
   have hEl:z+1=l:=by clear hM e2 hs ht h54 h53 h52;omega
   have h2:M2*2^z*2=9007199254740992:=by rw[Nat.mul_assoc,←Nat.pow_succ,Nat.succ_eq_add_one,hEl,←hM,hq2]
   have h3:M2*2^z=4503599627370496:=by clear hM;omega
   rw[hz,h3,if_pos (Nat.le_refl _)]
   clear hM h2 h3 hz
   omega
  ·obtain⟨a1,a2⟩:=h53 c
   have hEl:(E2-max ((bitN q:Int)-1+u-52) (-1074)).toNat=l:=by clear hM e2 hs ht h54 h53 h52;omega
   rw[hEl,←hM,if_pos a1]
   clear hM
   omega
  ·have a1:=h52 c
   have hu4:u= -1074:=by rcases hlo with h|h;exact absurd h (by omega);exact h
   have hEl:(E2-max ((bitN q:Int)-1+u-52) (-1074)).toNat=l:=by clear hM e2 hs ht h54 h53 h52;omega
   have hu5:(u+1074).toNat=0:=by rw[hu4];rfl
   rw[hEl,←hM,if_neg (by clear hM;omega),hu5,Nat.zero_mul,Nat.add_zero]
 ·rw[htop]
  exact big_top h54 hq hu hu2 hs
end Go.Proofs.YtffaefjkpipjnaaGreatDoor
namespace Go.Proofs.YtffaefjkpipjnaaGreatDoor
set_option maxRecDepth 100000
open Go.RowKit Go.ChangeShapes Go.WideShapes
set_option linter.unusedVariables false
set_option linter.unusedSimpArgs false
theorem getOf8 {L:List Oper}{k:Nat}{o:Oper}{r:List Oper}(h:L.drop k=o::r):(L.toArray)[k]?=some o:=by
 rw[List.getElem?_toArray]
 have h2:(L.drop k)[0]?=some o:=by rw[h];rfl
 rwa [List.getElem?_drop,Nat.add_zero]at h2
set_option maxHeartbeats 4000000 in
theorem right_less {w:World}{v:Value}{neg n':Bool}{M M':Nat}{E E' dir:Int}(h:Num w v M) (hT:Tab w) (h1: -9223372036854775808≤E) (h2:E≤9223372036854775807) (e:bareD ⟨neg,M,E⟩=⟨n',M',E'⟩) (hf:fitsE E'=true) (d0:0≤dir) (d3:dir≤3):
 Calls Tryz.prog 83 #[.agg #[.bool neg,v,.int .i64 E],.bool false,.int .i64 dir] w (fun e w'=>∃v,e= .returned (.tuple #[.agg #[.bool n',v,.int .i64 E'],.bool true])∧RdN w' v (digs BB M')∧Below w.heap.size w w'):=by
 obtain⟨a,n,k,rfl⟩:=h.slice
 have BA:=Lib.hid (fun w v (h:Num w v M) (hT:Tab w)=>Bare_ok h hT h1 h2 e hf)
 have dd0:decide (0≤dir)=true:=decide_eq_true d0
 have dd3:decide (dir≤3)=true:=decide_eq_true d3
 clear e hf d0 d3
 go_enter Tryz.func83,Tryz.ntmps83
 go_upto_region 2 with
  (first
    |(go_at_call 74;(with_reducible refine(BA.out _ _ (h.below below_2) (hT.below below_2)).mono ?_);rintro e w1 ⟨vx1,rfl,x1,hb1⟩;have B1:=below_2.trans (hb1.mono below_2.size);have m1:=((h.below below_2)).below hb1;have T1:=((hT.below below_2)).below hb1;have P1:=((blk_a1)).below hb1;have R1:=((blk_a2)).below hb1;obtain⟨cP0_1,cP1_1,cP2_1,fP0_1,fP1_1,fP2_1,sP_1⟩:=P1.open3;obtain⟨cR0_1,cR1_1,cR2_1,fR0_1,fR1_1,fR2_1,sR_1⟩:=R1.open3;obtain⟨ax1,kx1,rfl,-⟩:=x1.view;try simp only[List.length_nil]at x1)
    |fail)
 have P5:=P1.set3 (.bool n') (.slice ax1 (digs BB M').length kx1) (.int .i64 E')
 have R5:=R1.other3 (b':=w.heap.size) (by omega) (.bool n') (.slice ax1 (digs BB M').length kx1) (.int .i64 E')
 have x5:=x1.set3 P1 dcells (.bool n') (.slice ax1 (digs BB M').length kx1) (.int .i64 E')
 have B5:=below_set3b (b:=w.heap.size) B1 (Nat.le_refl _) (.bool n') (.slice ax1 (digs BB M').length kx1) (.int .i64 E')
 clear cP0_1 cP1_1 cP2_1 fP0_1 fP1_1 fP2_1 sP_1 cR0_1 cR1_1 cR2_1 fR0_1 fR1_1 fR2_1 sR_1 P1 R1 x1 B1 T1 m1 hb1
 generalize ((w1.setCell ⟨w.heap.size,0,none⟩ (.bool n')).setCell ⟨w.heap.size,1,none⟩ (.slice ax1 (digs BB M').length kx1)).setCell ⟨w.heap.size,2,none⟩ (.int .i64 E')=w5 at*
 have hAD:Below w5.heap.size w5 w5.drew:=below_drewN (Below.refl _ _) 1
 have P6:=P5.below hAD
 obtain⟨cP0_6,cP1_6,cP2_6,fP0_6,fP1_6,fP2_6,sP_6⟩:=P6.open3
 obtain⟨cR0_5,cR1_5,cR2_5,fR0_5,fR1_5,fR2_5,sR_5⟩:=R5.open3
 have cG:=fun x y z=>(Blk.dr (P5.other3 (b':=w.heap.size+1) (by omega) x y z)).open3
 refine wp_region_held_drew (S:=(fun w'=>w'.cell? ⟨w.heap.size,0,none⟩=some (.bool n')∧w'.cell? ⟨w.heap.size,1,none⟩=some (.slice ax1 (digs BB M').length kx1)∧w'.cell? ⟨w.heap.size,2,none⟩=some (.int .i64 E'))) (by kernel_rfl) ?_ (fun hHeld=>?_)
 ·(try dsimp only);exact⟨cP0_6,cP1_6,cP2_6⟩
 refine wpAnyH_take (i:=0) (v:=?_) (getOf8 rfl) (by kernel_rfl) (by kernel_rfl) (by kernel_rfl) (fun _ _ _ h=>h) (Or.inl ⟨by rfl,?_⟩) hHeld ?_
 rotate_left
 ·(intro w hSw;(try dsimp only at hSw);go_simp;(try with_reducible rfl))
 (try simp only[Act.put,List.setIfInBounds_toArray,List.set_cons_zero,List.set_cons_succ])
 refine wpAnyH_take (i:=1) (v:=?_) (getOf8 rfl) (by kernel_rfl) (by kernel_rfl) (by kernel_rfl) (fun _ _ _ h=>h) (Or.inl ⟨by rfl,?_⟩) hHeld ?_
 rotate_left
 ·(intro w hSw;(try dsimp only at hSw);go_simp;(try with_reducible rfl))
 (try simp only[Act.put,List.setIfInBounds_toArray,List.set_cons_zero,List.set_cons_succ])
 refine wpAnyH_take (i:=2) (v:=?_) (getOf8 rfl) (by kernel_rfl) (by kernel_rfl) (by kernel_rfl) (fun _ _ _ h=>h) (Or.inl ⟨by rfl,?_⟩) hHeld ?_
 rotate_left
 ·(intro w hSw;(try dsimp only at hSw);go_simp;(try with_reducible rfl))
 (try simp only[Act.put,List.setIfInBounds_toArray,List.set_cons_zero,List.set_cons_succ])
 refine wpAnyH_take (i:=3) (v:=?_) (getOf8 rfl) (by kernel_rfl) (by kernel_rfl) (by kernel_rfl) (fun _ _ _ h=>h) (Or.inl ⟨by rfl,?_⟩) hHeld ?_
 rotate_left
 ·(intro w hSw;(try dsimp only at hSw);go_simp;(try with_reducible rfl))
 (try simp only[Act.put,List.setIfInBounds_toArray,List.set_cons_zero,List.set_cons_succ])
 refine wpAnyH_take (i:=4) (v:=?_) (getOf8 rfl) (by kernel_rfl) (by kernel_rfl) (by kernel_rfl) (fun _ _ _ h=>h) (Or.inl ⟨by rfl,?_⟩) hHeld ?_
 rotate_left
 ·(intro w hSw;(try dsimp only at hSw);go_simp;(try with_reducible rfl))
 (try simp only[Act.put,List.setIfInBounds_toArray,List.set_cons_zero,List.set_cons_succ])
 refine wpAnyH_take (i:=5) (v:=?_) (getOf8 rfl) (by kernel_rfl) (by kernel_rfl) (by kernel_rfl) (fun _ _ _ h=>h) (Or.inl ⟨by rfl,?_⟩) hHeld ?_
 rotate_left
 ·(intro w hSw;(try dsimp only at hSw);go_simp;(try with_reducible rfl))
 (try simp only[Act.put,List.setIfInBounds_toArray,List.set_cons_zero,List.set_cons_succ])
 refine wpAnyH_take (i:=6) (v:=?_) (getOf8 rfl) (by kernel_rfl) (by kernel_rfl) (by kernel_rfl) (fun _ _ _ h=>h) (Or.inl ⟨by rfl,?_⟩) hHeld ?_
 rotate_left
 ·(intro w hSw;(try dsimp only at hSw);go_simp;(try with_reducible rfl))
 (try simp only[Act.put,List.setIfInBounds_toArray,List.set_cons_zero,List.set_cons_succ])
 refine wpAnyH_take (i:=7) (v:=?_) (getOf8 rfl) (by kernel_rfl) (by kernel_rfl) (by kernel_rfl) (fun _ _ _ h=>h) (Or.inl ⟨by rfl,?_⟩) hHeld ?_
 rotate_left
 ·(intro w hSw;(try dsimp only at hSw);go_simp;(try with_reducible rfl))
 (try simp only[Act.put,List.setIfInBounds_toArray,List.set_cons_zero,List.set_cons_succ])
 refine wpAnyH_take (i:=8) (v:=?_) (getOf8 rfl) (by kernel_rfl) (by kernel_rfl) (by kernel_rfl) (fun _ _ _ h=>h) (Or.inl ⟨by rfl,?_⟩) hHeld ?_
 rotate_left
 ·(intro w hSw;(try dsimp only at hSw);go_simp;(try with_reducible rfl))
 (try simp only[Act.put,List.setIfInBounds_toArray,List.set_cons_zero,List.set_cons_succ])
 refine wpAnyH_take (i:=9) (v:=?_) (getOf8 rfl) (by kernel_rfl) (by kernel_rfl) (by kernel_rfl) (fun _ _ _ h=>h) (Or.inl ⟨by rfl,?_⟩) hHeld ?_
 rotate_left
 ·(intro w hSw;(try dsimp only at hSw);go_simp;(try with_reducible rfl))
 (try simp only[Act.put,List.setIfInBounds_toArray,List.set_cons_zero,List.set_cons_succ])
 refine wpAnyH_take (i:=10) (v:=?_) (getOf8 rfl) (by kernel_rfl) (by kernel_rfl) (by kernel_rfl) (fun _ _ _ h=>h) (Or.inl ⟨by rfl,?_⟩) hHeld ?_
 rotate_left
 ·(intro w hSw;(try dsimp only at hSw);go_simp;(try with_reducible rfl))
 (try simp only[Act.put,List.setIfInBounds_toArray,List.set_cons_zero,List.set_cons_succ])
 refine wpAnyH_take (i:=11) (v:=?_) (getOf8 rfl) (by kernel_rfl) (by kernel_rfl) (by kernel_rfl) (fun _ _ _ h=>h) (Or.inl ⟨by rfl,?_⟩) hHeld ?_
 rotate_left
 ·(intro w hSw;(try dsimp only at hSw);go_simp;(try with_reducible rfl))
 (try simp only[Act.put,List.setIfInBounds_toArray,List.set_cons_zero,List.set_cons_succ])
 refine wpAnyH_take (i:=12) (v:=?_) (getOf8 rfl) (by kernel_rfl) (by kernel_rfl) (by kernel_rfl) (fun _ _ _ h=>h) (Or.inl ⟨by rfl,?_⟩) hHeld ?_
 rotate_left
 ·(intro w hSw;(try dsimp only at hSw);go_simp;(try with_reducible rfl))
 (try simp only[Act.put,List.setIfInBounds_toArray,List.set_cons_zero,List.set_cons_succ])
 refine wpAnyH_take (i:=13) (v:=?_) (getOf8 rfl) (by kernel_rfl) (by kernel_rfl) (by kernel_rfl) (fun _ _ _ h=>h) (Or.inl ⟨by rfl,?_⟩) hHeld ?_
 rotate_left
 ·(intro w hSw;(try dsimp only at hSw);go_simp;(try with_reducible rfl))
 (try simp only[Act.put,List.setIfInBounds_toArray,List.set_cons_zero,List.set_cons_succ])
 refine wpAnyH_take (i:=14) (v:=undef) (getOf8 rfl) (by kernel_rfl) (by kernel_rfl) (by kernel_rfl) (fun _ _ _ h=>h) (Or.inr ⟨by rfl,rfl⟩) hHeld ?_
 (try simp only[Act.put,List.setIfInBounds_toArray,List.set_cons_zero,List.set_cons_succ])
 refine wpAnyH_take (i:=15) (v:=undef) (getOf8 rfl) (by kernel_rfl) (by kernel_rfl) (by kernel_rfl) (fun _ _ _ h=>h) (Or.inr ⟨by rfl,rfl⟩) hHeld ?_
 (try simp only[Act.put,List.setIfInBounds_toArray,List.set_cons_zero,List.set_cons_succ])
 refine wpAnyH_take (i:=16) (v:=undef) (getOf8 rfl) (by kernel_rfl) (by kernel_rfl) (by kernel_rfl) (fun _ _ _ h=>h) (Or.inr ⟨by rfl,rfl⟩) hHeld ?_
 (try simp only[Act.put,List.setIfInBounds_toArray,List.set_cons_zero,List.set_cons_succ])
 refine wpAnyH_take (i:=17) (v:=undef) (getOf8 rfl) (by kernel_rfl) (by kernel_rfl) (by kernel_rfl) (fun _ _ _ h=>h) (Or.inr ⟨by rfl,rfl⟩) hHeld ?_
 (try simp only[Act.put,List.setIfInBounds_toArray,List.set_cons_zero,List.set_cons_succ])
 refine wpAnyH_take (i:=18) (v:=?_) (getOf8 rfl) (by kernel_rfl) (by kernel_rfl) (by kernel_rfl) (fun _ _ _ h=>h) (Or.inl ⟨by rfl,?_⟩) hHeld ?_
 rotate_left
 ·(intro w hSw;(try dsimp only at hSw);go_simp;(try with_reducible rfl))
 (try simp only[Act.put,List.setIfInBounds_toArray,List.set_cons_zero,List.set_cons_succ])
 refine wpAnyH_take (i:=19) (v:=?_) (getOf8 rfl) (by kernel_rfl) (by kernel_rfl) (by kernel_rfl) (fun _ _ _ h=>h) (Or.inl ⟨by rfl,?_⟩) hHeld ?_
 rotate_left
 ·(intro w hSw;(try dsimp only at hSw);go_simp;(try with_reducible rfl))
 (try simp only[Act.put,List.setIfInBounds_toArray,List.set_cons_zero,List.set_cons_succ])
 refine wpAnyH_take (i:=20) (v:=?_) (getOf8 rfl) (by kernel_rfl) (by kernel_rfl) (by kernel_rfl) (fun _ _ _ h=>h) (Or.inl ⟨by rfl,?_⟩) hHeld ?_
 rotate_left
 ·(intro w hSw;(try dsimp only at hSw);go_simp;(try with_reducible rfl))
 (try simp only[Act.put,List.setIfInBounds_toArray,List.set_cons_zero,List.set_cons_succ])
 refine wpAnyH_ready (rs:=[21]) (by kernel_rfl) (by simp) ?_
 refine AllReadyH.cons (getOf8 rfl) (fun K hK=>?_) AllReadyH.nil
 go_simp
 skip
 (try(go_wp2_with fail))
 refine hK.out _ _ ?_ (fun hHeld2=>?_)
 ·(try dsimp only);exact⟨(cG _ _ _).1,(cG _ _ _).2.1,(cG _ _ _).2.2.1⟩
 clear hK K hHeld
 have hHeld:=hHeld2
 clear hHeld2
 (try simp only[Act.put,List.setIfInBounds_toArray,List.set_cons_zero,List.set_cons_succ])
 refine wpAnyH_take (i:=22) (v:=?_) (getOf8 rfl) (by kernel_rfl) (by kernel_rfl) (by kernel_rfl) (fun _ _ _ h=>h) (Or.inl ⟨by rfl,?_⟩) hHeld ?_
 rotate_left
 ·(intro w hSw;(try dsimp only at hSw);go_simp;(try with_reducible rfl))
 (try simp only[Act.put,List.setIfInBounds_toArray,List.set_cons_zero,List.set_cons_succ])
 refine wpAnyH_done (by kernel_rfl) ?_ _
 go_wp2_with fail
 obtain⟨q0,q1,q2,-⟩:=(Blk.dr (R5.set3 (.bool n') (.slice ax1 (digs BB M').length kx1) (.int .i64 E'))).open3
 refine bodyPost_ret (v:= .tuple #[.agg #[.bool n',.slice ax1 (digs BB M').length kx1,.int .i64 E'],.bool true]) ?_ rfl ?_
 ·simp[results,Tryz.results83,go_sem,q0,q1,q2]
 ·exact⟨_,rfl,(x5.set3 R5 dcells _ _ _).below (below_drewN (Below.refl _ _) 1),below_drewN (below_set3b B5 (by omega) _ _ _) 1⟩
theorem right_any {w:World}{v:Value}{neg n' more:Bool}{M M':Nat}{E E' dir:Int}(h:Num w v M) (hT:Tab w) (h1: -9223372036854775808≤E) (h2:E≤9223372036854775807) (e:bareD ⟨neg,M,E⟩=⟨n',M',E'⟩) (hf:fitsE E'=true) (d0:0≤dir) (d3:dir≤3) (h0:M'≠0):
 Calls Tryz.prog 83 #[.agg #[.bool neg,v,.int .i64 E],.bool more,.int .i64 dir] w (fun e w'=>∃v,e= .returned (.tuple #[.agg #[.bool n',v,.int .i64 E'],.bool true])∧RdN w' v (digs BB M')∧Below w.heap.size w w'):=by
 cases more
 ·exact right_less h hT h1 h2 e hf d0 d3
 ·exact right_more h hT h1 h2 e hf d0 d3 h0
theorem Top_nil {w:World}{v:Value}{neg:Bool}{E:Int}(h:Num w v 0) (hT:Tab w) (h1: -9223372036854775808≤E) (h2:E≤9223372036854775807):
 Calls Tryz.prog 69 #[.agg #[.bool neg,v,.int .i64 E]] w (fun e w'=>e= .returned (.tuple #[.int .i64 0,.bool false])∧Below w.heap.size w w'):=by
 obtain⟨a,n,k,rfl⟩:=h.slice
 have HB:=Lib.hid (fun w v (h:Num w v 0) (hT:Tab w)=>bare_d (neg:=neg) (E:=E) h hT h1 h2 (bareD_zero rfl))
 have dz:(digs BB 0).length=0:=by rw[digs_zero];rfl
 go_enter Tryz.func69,Tryz.ntmps69
 go_wp2_with
  (first
    |(go_at_call 80;(with_reducible refine(HB.out _ _ (h.below (below_alloc _ _)) (hT.below (below_alloc _ _))).mono ?_);rintro e w1 ⟨vd1,rfl,d1,hb1⟩;have B1:=(below_alloc _ _).trans (hb1.mono (below_alloc _ _).size);have m1:=((h.below (below_alloc _ _))).below hb1;have T1:=((hT.below (below_alloc _ _))).below hb1;have P1:=((blk_new)).below hb1;obtain⟨cP0_1,cP1_1,cP2_1,fP0_1,fP1_1,fP2_1,sP_1⟩:=P1.open3;obtain⟨ud1,rfl,d1⟩:=d1;obtain⟨ad1,kd1,rfl,-⟩:=d1.view)
    |fail)
 go_ret2
 exact⟨by simp,below_set3 B1 (Nat.le_refl _) _ _ _⟩
theorem exact_nil {w:World}{v:Value}{n:Bool}{E:Int}(h:Num w v 0) (hT:Tab w) (h1: -9223372036854775808≤E) (h2:E≤9223372036854775807):
 Calls Tryz.prog 85 #[.agg #[.bool n,v,.int .i64 E]] w (fun e w'=>e= .returned (.tuple #[.int .u64 0,.bool true])∧Below w.heap.size w w'):=by
 obtain⟨a,k,c,rfl⟩:=h.slice
 have TP:=Lib.hid (fun w v (h:Num w v 0) (hT:Tab w)=>Top_nil (neg:=n) (E:=E) h hT h1 h2)
 go_enter Tryz.func85,Tryz.ntmps85
 go_wp2_with
  (first
    |(go_at_call 69;(with_reducible refine(TP.out _ _ (h.below (below_alloc _ _)) (hT.below (below_alloc _ _))).mono ?_);rintro e w1 ⟨rfl,hb1⟩;have B1:=(below_alloc _ _).trans (hb1.mono (below_alloc _ _).size);have m1:=((h.below (below_alloc _ _))).below hb1;have T1:=((hT.below (below_alloc _ _))).below hb1;have P1:=((blk_new)).below hb1;obtain⟨cP0_1,cP1_1,cP2_1,fP0_1,fP1_1,fP2_1,sP_1⟩:=P1.open3)
    |fail)
 all_goals
  go_ret2
  exact⟨rfl,by assumption⟩
theorem exact_big {w:World}{v:Value}{n:Bool}{M:Nat}{E top:Int}(hv:RdN w v (digs BB M)) (hT:Tab w) (o:M%2=1) (sM:bitN M≤60000) (e1: -1073741824≤E) (e2:E≤1073741824) (ht:topD ⟨n,M,E⟩=top) (ht1:1023<top):
 Calls Tryz.prog 85 #[.agg #[.bool n,v,.int .i64 E]] w (fun e w'=>e= .returned (.tuple #[.int .u64 0,.bool false])∧Below w.heap.size w w'):=by
 have h0:M≠0:=by omega
 have ed:bareD ⟨n,M,E⟩=⟨n,M,E⟩:=bareD_odd' o (by omega) (by omega)
 have hf:fitsE E=true:=by unfold fitsE;rw[decide_eq_true (by omega),decide_eq_true (by omega)];rfl
 obtain⟨av,kv,rfl,-⟩:=hv.view
 have TP:=Lib.hid (fun w v (h:RdN w v (digs BB M)) (hT:Tab w)=>by
  have:=Top_n (h.num (by omega)) hT (by omega) (by omega) ed h0
  rw[ht]at this;exact this)
 have BA:=Lib.hid (fun w v (h:RdN w v (digs BB M)) (hT:Tab w)=>Bare_ok (h.num (by omega)) hT (by omega) (by omega) ed hf)
 have d1:decide (1023<top)=true:=decide_eq_true ht1
 clear ht ed hf e1 e2 o ht1 sM h0
 go_enter Tryz.func85,Tryz.ntmps85
 go_wp2_with
  (first
    |(go_at_call 69;(with_reducible refine(TP.out _ _ (hv.below (below_alloc _ _)) (hT.below (below_alloc _ _))).mono ?_);rintro e w1 ⟨rfl,hb1⟩;have B1:=(below_alloc _ _).trans (hb1.mono (below_alloc _ _).size);have m1:=((hv.below (below_alloc _ _))).below hb1;have T1:=((hT.below (below_alloc _ _))).below hb1;have P1:=((blk_new)).below hb1;obtain⟨cP0_1,cP1_1,cP2_1,fP0_1,fP1_1,fP2_1,sP_1⟩:=P1.open3)
    |(go_at_call 74;(with_reducible refine(BA.out _ _ m1 T1).mono ?_);rintro e w2 ⟨vx2,rfl,x2,hb2⟩;have B2:=B1.trans (hb2.mono B1.size);have m2:=m1.below hb2;have T2:=T1.below hb2;have P2:=P1.below hb2;clear m1 T1 P1;clear cP0_1 cP1_1 cP2_1 fP0_1 fP1_1 fP2_1 sP_1;obtain⟨cP0_2,cP1_2,cP2_2,fP0_2,fP1_2,fP2_2,sP_2⟩:=P2.open3;obtain⟨ax2,kx2,rfl,-⟩:=x2.view;try simp only[List.length_nil]at x2)
    |fail)
 all_goals
  go_ret2
  exact⟨rfl,below_set3b (by assumption) (Nat.le_refl _) _ _ _⟩
end Go.Proofs.YtffaefjkpipjnaaGreatDoor
namespace Go.Proofs.YtffaefjkpipjnaaGreatDoor
set_option maxRecDepth 100000
open Go.RowKit Go.ChangeShapes Go.WideShapes
set_option linter.unusedVariables false
set_option linter.unusedSimpArgs false
theorem over_same {n more:Bool}{M:Nat}{E dir top:Int}(h0:M≠0) (ht:topD ⟨n,M,E⟩=top) (hw:(wholeP n M E more dir (unitB top)).1=9007199254740992):overB n dir=signedB 9218868437227405312 n:=by
 have h1:=parts_bits h0 ht
 have hu:unitB top=max (top-52) (-1074):=rfl
 have h3:bitN (partsP M E (unitB top)).1≤53:=by omega
 have h4:=bits53 h3
 unfold wholeP at hw
 dsimp only at hw
 split at hw
 ·rename_i ha
  unfold awayB at ha
  unfold overB
  by_cases hd:dir=0
  ·rw[decide_eq_true hd,Bool.true_or,if_pos rfl]
  ·rw[if_neg hd]at ha
   have:upB dir n=true:=by
    cases hU:upB dir n
    ·rw[hU,Bool.and_false]at ha;cases ha
    ·rfl
   rw[this,Bool.or_true,if_pos rfl]
 ·omega
theorem over_q {q:Nat}{u:Int}(q1:q≤9007199254740992) (h1: -1074≤u) (h2:u≤971) (h:q+(u+1074).toNat*4503599627370496=9218868437227405312):q=9007199254740992:=by omega
theorem under_q {q:Nat}{u:Int}(q1:q≤9007199254740992) (h2:u≤971) (h1: -1074≤u) (h:¬q+(u+1074).toNat*4503599627370496=9218868437227405312):q+(u+1074).toNat*4503599627370496<9218868437227405312:=by omega
theorem or_2:bits .or .u8 1 2=3:=by decide
set_option maxHeartbeats 8000000 in
theorem To_any {w:World}{v:Value}{neg n1 more:Bool}{M M1:Nat}{E E1 dir:Int}(h:Num w v M) (hT:Tab w) (h1: -9223372036854775808≤E) (h2:E≤9223372036854775807) (e:bareD ⟨neg,M,E⟩=⟨n1,M1,E1⟩) (hf:fitsE E1=true) (d0:0≤dir) (d3:dir≤3) (h0:M1≠0) (sM:bitN M1≤50000):
 Calls Tryz.prog 55 #[.agg #[.bool neg,v,.int .i64 E],.bool more,.int .i64 dir] w (fun e w'=>e= .returned (.tuple #[L64 (toB n1 M1 E1 more dir).1,.int .u8 (toB n1 M1 E1 more dir).2,.int .i64 0])∧Below w.heap.size w w'):=by
 have rF: -1073741824≤E1∧E1≤1073741824:=by unfold fitsE at hf;simp at hf;exact hf
 obtain⟨top,ht⟩:∃t,topD ⟨n1,M1,E1⟩=t:=⟨_,rfl⟩
 have ht':=ht
 unfold topD at ht'
 dsimp only at ht'
 have ed1:bareD ⟨n1,M1,E1⟩=⟨n1,M1,E1⟩:=bareD_again e (by omega) (by omega)
 obtain⟨a,n,k,rfl⟩:=h.slice
 have RG:=Lib.hid (fun w v (h:Num w v M) (hT:Tab w)=>right_any (more:=more) h hT h1 h2 e hf d0 d3 h0)
 have TP:=Lib.hid (fun w v (h:RdN w v (digs BB M1)) (hT:Tab w)=>by
  have:=Top_n (h.num (by omega)) hT (by omega) (by omega) ed1 h0
  rw[ht]at this;exact this)
 by_cases c1:1023<top
 ·have hb:toB n1 M1 E1 more dir=(overB n1 dir,5):=by unfold toB;rw[ht,if_pos c1]
  rw[hb]
  have x1:decide (1023<top)=true:=decide_eq_true c1
  clear e hf d0 d3 sM ht ht' h0 rF ed1 hb c1
  obtain⟨b,hbb⟩:∃b,overB n1 dir=b:=⟨_,rfl⟩
  have HO:=Lib.hid (fun w=>over_n (w:=w) (dir:=dir) (neg:=n1))
  rw[hbb]at HO⊢
  clear hbb
  go_enter Tryz.func55,Tryz.ntmps55
  go_upto_region 2 with
   (first
     |(go_at_call 83;(with_reducible refine(RG.out _ _ (h.below (below_alloc _ _)) (hT.below (below_alloc _ _))).mono ?_);rintro e w1 ⟨vx1,rfl,x1,hb1⟩;have B1:=(below_alloc _ _).trans (hb1.mono (below_alloc _ _).size);have m1:=((h.below (below_alloc _ _))).below hb1;have T1:=((hT.below (below_alloc _ _))).below hb1;have P1:=((blk_new)).below hb1;obtain⟨cP0_1,cP1_1,cP2_1,fP0_1,fP1_1,fP2_1,sP_1⟩:=P1.open3;obtain⟨ax1,kx1,rfl,-⟩:=x1.view;try simp only[List.length_nil]at x1)
     |fail)
  have P5:=P1.set3 (.bool n1) (.slice ax1 (digs BB M1).length kx1) (.int .i64 E1)
  have x5:=x1.set3 P1 dcells (.bool n1) (.slice ax1 (digs BB M1).length kx1) (.int .i64 E1)
  have B5:=below_set3b (b:=w.heap.size) B1 (Nat.le_refl _) (.bool n1) (.slice ax1 (digs BB M1).length kx1) (.int .i64 E1)
  clear cP0_1 cP1_1 cP2_1 fP0_1 fP1_1 fP2_1 sP_1 P1 x1 B1 T1 m1 hb1
  generalize ((w1.setCell ⟨w.heap.size,0,none⟩ (.bool n1)).setCell ⟨w.heap.size,1,none⟩ (.slice ax1 (digs BB M1).length kx1)).setCell ⟨w.heap.size,2,none⟩ (.int .i64 E1)=w5 at*
  have T5:=hT.below B5
  obtain⟨cP0_5,cP1_5,cP2_5,fP0_5,fP1_5,fP2_5,sP_5⟩:=P5.open3
  go_wp2_with
   (first
     |(go_at_call 69;(with_reducible refine(TP.out _ _ x5 T5).mono ?_);rintro e w6 ⟨rfl,hb6⟩;have B6:=B5.trans (hb6.mono B5.size);have x6:=x5.below hb6;have T6:=T5.below hb6;have P6:=P5.below hb6;clear x5 T5 P5;obtain⟨cP0_6,cP1_6,cP2_6,fP0_6,fP1_6,fP2_6,sP_6⟩:=P6.open3)
     |(go_at_call 53;(with_reducible refine(HO.out _).mono ?_);rintro e w7 ⟨rfl,rfl⟩)
     |fail)
  all_goals
   go_ret3
   exact⟨rfl,by assumption⟩
 by_cases c2:top< -1075
 ·have hb:toB n1 M1 E1 more dir=(underB n1 dir,3):=by unfold toB;rw[ht,if_neg c1,if_pos c2]
  rw[hb]
  have x1:decide (1023<top)=false:=decide_eq_false c1
  have x2:decide (top< -1075)=true:=decide_eq_true c2
  clear e hf d0 d3 sM ht ht' h0 rF ed1 hb c1 c2
  obtain⟨b,hbb⟩:∃b,underB n1 dir=b:=⟨_,rfl⟩
  have HU:=Lib.hid (fun w=>under_n (w:=w) (dir:=dir) (neg:=n1))
  rw[hbb]at HU⊢
  clear hbb
  go_enter Tryz.func55,Tryz.ntmps55
  go_upto_region 2 with
   (first
     |(go_at_call 83;(with_reducible refine(RG.out _ _ (h.below (below_alloc _ _)) (hT.below (below_alloc _ _))).mono ?_);rintro e w1 ⟨vx1,rfl,x1,hb1⟩;have B1:=(below_alloc _ _).trans (hb1.mono (below_alloc _ _).size);have m1:=((h.below (below_alloc _ _))).below hb1;have T1:=((hT.below (below_alloc _ _))).below hb1;have P1:=((blk_new)).below hb1;obtain⟨cP0_1,cP1_1,cP2_1,fP0_1,fP1_1,fP2_1,sP_1⟩:=P1.open3;obtain⟨ax1,kx1,rfl,-⟩:=x1.view;try simp only[List.length_nil]at x1)
     |fail)
  have P5:=P1.set3 (.bool n1) (.slice ax1 (digs BB M1).length kx1) (.int .i64 E1)
  have x5:=x1.set3 P1 dcells (.bool n1) (.slice ax1 (digs BB M1).length kx1) (.int .i64 E1)
  have B5:=below_set3b (b:=w.heap.size) B1 (Nat.le_refl _) (.bool n1) (.slice ax1 (digs BB M1).length kx1) (.int .i64 E1)
  clear cP0_1 cP1_1 cP2_1 fP0_1 fP1_1 fP2_1 sP_1 P1 x1 B1 T1 m1 hb1
  generalize ((w1.setCell ⟨w.heap.size,0,none⟩ (.bool n1)).setCell ⟨w.heap.size,1,none⟩ (.slice ax1 (digs BB M1).length kx1)).setCell ⟨w.heap.size,2,none⟩ (.int .i64 E1)=w5 at*
  have T5:=hT.below B5
  obtain⟨cP0_5,cP1_5,cP2_5,fP0_5,fP1_5,fP2_5,sP_5⟩:=P5.open3
  go_wp2_with
   (first
     |(go_at_call 69;(with_reducible refine(TP.out _ _ x5 T5).mono ?_);rintro e w6 ⟨rfl,hb6⟩;have B6:=B5.trans (hb6.mono B5.size);have x6:=x5.below hb6;have T6:=T5.below hb6;have P6:=P5.below hb6;clear x5 T5 P5;obtain⟨cP0_6,cP1_6,cP2_6,fP0_6,fP1_6,fP2_6,sP_6⟩:=P6.open3)
     |(go_at_call 54;(with_reducible refine(HU.out _).mono ?_);rintro e w7 ⟨rfl,rfl⟩)
     |fail)
  all_goals
   go_ret3
   exact⟨rfl,by assumption⟩
 have x1:decide (1023<top)=false:=decide_eq_false c1
 have x2:decide (top< -1075)=false:=decide_eq_false c2
 obtain⟨u,hu⟩:∃u,unitB top=u:=⟨_,rfl⟩
 have hu':max (top-52) (-1074)=u:=hu
 obtain⟨⟨q,ix⟩,hw⟩:∃r,wholeP n1 M1 E1 more dir u=r:=⟨_,rfl⟩
 obtain⟨q1,q2⟩:=whole_le (n:=n1) (more:=more) (dir:=dir) h0 ht
 rw[hu,hw]at q1 q2
 dsimp only at q1 q2
 have bu:u.natAbs≤4294967296:=by omega
 have bE1:E1.natAbs≤4294967296:=by omega
 have bs:bitN M1+(E1-u).toNat≤65536:=by omega
 have bt:(top-52).natAbs≤1099511627776:=by omega
 have hq54:bitN q≤54:=bitN_le.2 (Nat.lt_of_le_of_lt q1 (by decide))
 have WH:=Lib.hid (fun w v (h:RdN w v (digs BB M1)) (hT:Tab w)=>whole_n h hT (by omega) bE1 bu bs hw)
 have hsz:sizeB n1 M1 E1 more dir=q+(u+1074).toNat*4503599627370496:=by unfold sizeB;rw[ht,hu,hw]
 have hfl:flagB n1 M1 E1 more dir=if q+(u+1074).toNat*4503599627370496=9218868437227405312 then 5 else if ix=true then(if top< -1022 then 3 else 1)else 0:=by unfold flagB;rw[hsz,ht,hu,hw]
 have hto:toB n1 M1 E1 more dir=(signedB (q+(u+1074).toNat*4503599627370496) n1,flagB n1 M1 E1 more dir):=by unfold toB;rw[ht,if_neg c1,if_neg c2,hsz]
 by_cases hover:q+(u+1074).toNat*4503599627370496=9218868437227405312
 ·have hq:q=9007199254740992:=over_q q1 (by omega) (by omega) hover
  have hq0:q≠0:=by omega
  rw[hto,hfl,if_pos hover,hover,←over_same (more:=more) h0 ht (by rw[hu,hw];exact hq)]
  obtain⟨⟨n2,M2,E2⟩,e2⟩:∃d,bareD ⟨n1,q,u⟩=d:=⟨_,rfl⟩
  obtain rfl:n2=n1:=by rw[bareD_pos hq0]at e2;injection e2 with e2 _;exact e2.symm
  obtain⟨o2,sM2,r1,r2,-,hbig⟩:=exact_size hq0 q1 (by omega) (by omega) q2 e2
  have ht2:=hbig (by omega)
  have hm:makeQ ⟨n2,q,u⟩=(n2,M2,E2,0):=by
   unfold makeQ
   rw[e2]
   dsimp only
   rw[if_pos (by unfold fitsE;rw[decide_eq_true (by omega),decide_eq_true (by omega)];rfl)]
  have MK:=Lib.hid (fun w v (h:RdN w v (digs BB q)) (hT:Tab w)=>Make_q (h.num (by omega)) hT (by omega) (by omega) hm)
  have EX:=Lib.hid (fun w v (h:RdN w v (digs BB M2)) (hT:Tab w)=>exact_big h hT o2 (by omega) (by omega) (by omega) rfl ht2)
  obtain⟨b,hbb⟩:∃b,overB n2 dir=b:=⟨_,rfl⟩
  have HO:=Lib.hid (fun w=>over_n (w:=w) (dir:=dir) (neg:=n2))
  rw[hbb]at HO⊢
  have wt:=wwI bt
  have wt':=iwI bt
  clear e hf d0 d3 sM ht ht' h0 rF ed1 c1 c2 hu hw q1 q2 bu bE1 bs bt hq54 hsz hfl hto hover hq hq0 e2 o2 sM2 r1 r2 hbig ht2 hm hbb
  go_enter Tryz.func55,Tryz.ntmps55
  go_upto_region 2 with
   (first
     |(go_at_call 83;(with_reducible refine(RG.out _ _ (h.below (below_alloc _ _)) (hT.below (below_alloc _ _))).mono ?_);rintro e w1 ⟨vx1,rfl,x1,hb1⟩;have B1:=(below_alloc _ _).trans (hb1.mono (below_alloc _ _).size);have m1:=((h.below (below_alloc _ _))).below hb1;have T1:=((hT.below (below_alloc _ _))).below hb1;have P1:=((blk_new)).below hb1;obtain⟨cP0_1,cP1_1,cP2_1,fP0_1,fP1_1,fP2_1,sP_1⟩:=P1.open3;obtain⟨ax1,kx1,rfl,-⟩:=x1.view;try simp only[List.length_nil]at x1)
     |fail)
  have P5:=P1.set3 (.bool n2) (.slice ax1 (digs BB M1).length kx1) (.int .i64 E1)
  have x5:=x1.set3 P1 dcells (.bool n2) (.slice ax1 (digs BB M1).length kx1) (.int .i64 E1)
  have B5:=below_set3b (b:=w.heap.size) B1 (Nat.le_refl _) (.bool n2) (.slice ax1 (digs BB M1).length kx1) (.int .i64 E1)
  clear cP0_1 cP1_1 cP2_1 fP0_1 fP1_1 fP2_1 sP_1 P1 x1 B1 T1 m1 hb1
  generalize ((w1.setCell ⟨w.heap.size,0,none⟩ (.bool n2)).setCell ⟨w.heap.size,1,none⟩ (.slice ax1 (digs BB M1).length kx1)).setCell ⟨w.heap.size,2,none⟩ (.int .i64 E1)=w5 at*
  have T5:=hT.below B5
  obtain⟨cP0_5,cP1_5,cP2_5,fP0_5,fP1_5,fP2_5,sP_5⟩:=P5.open3
  go_wp2_with
   (first
     |(go_at_call 69;(with_reducible refine(TP.out _ _ x5 T5).mono ?_);rintro e w6 ⟨rfl,hb6⟩;have B6:=B5.trans (hb6.mono B5.size);have x6:=x5.below hb6;have T6:=T5.below hb6;have P6:=P5.below hb6;clear x5 T5 P5;obtain⟨cP0_6,cP1_6,cP2_6,fP0_6,fP1_6,fP2_6,sP_6⟩:=P6.open3)
     |(go_at_call 84;(with_reducible refine(WH.out _ _ x6 T6).mono ?_);rintro e w7 ⟨vz7,rfl,z7,hb7⟩;have B7:=B6.trans (hb7.mono B6.size);have x7:=x6.below hb7;have T7:=T6.below hb7;have P7:=P6.below hb7;clear x6 T6 P6;clear cP0_6 cP1_6 cP2_6 fP0_6 fP1_6 fP2_6 sP_6;obtain⟨cP0_7,cP1_7,cP2_7,fP0_7,fP1_7,fP2_7,sP_7⟩:=P7.open3)
     |(go_at_call 47;(with_reducible refine(MK.out _ _ z7 T7).mono ?_);rintro e w8 ⟨vy8,rfl,y8,hb8⟩;have B8:=B7.trans (hb8.mono B7.size);have x8:=x7.below hb8;have T8:=T7.below hb8;have P8:=P7.below hb8;have z8:=z7.below hb8;clear x7 T7 P7 z7;clear cP0_7 cP1_7 cP2_7 fP0_7 fP1_7 fP2_7 sP_7;obtain⟨cP0_8,cP1_8,cP2_8,fP0_8,fP1_8,fP2_8,sP_8⟩:=P8.open3;obtain⟨ay8,ky8,rfl,-⟩:=y8.view;try simp only[List.length_nil]at y8)
     |(go_at_call 85;(with_reducible refine(EX.out _ _ (y8.below (below_alloc _ _)) (T8.below (below_alloc _ _))).mono ?_);rintro e w9 ⟨rfl,hb9⟩;have hb9':=(below_a hb9);have B9:=B8.trans (hb9'.mono B8.size);have x9:=x8.below hb9';have T9:=T8.below hb9';have P9:=P8.below hb9';have z9:=z8.below hb9';have y9:=y8.below hb9';clear x8 T8 P8 z8 y8;clear cP0_8 cP1_8 cP2_8 fP0_8 fP1_8 fP2_8 sP_8;obtain⟨cP0_9,cP1_9,cP2_9,fP0_9,fP1_9,fP2_9,sP_9⟩:=P9.open3)
     |(go_at_call 53;(with_reducible refine(HO.out _).mono ?_);rintro e w10 ⟨rfl,rfl⟩)
     |fail)
  all_goals
   go_ret3
   exact⟨rfl,by assumption⟩
 have hlt:=under_q q1 (show u≤971 by omega) (show-1074≤u by omega) hover
 have hsig:q+(u+1074).toNat*4503599627370496<9223372036854775808:=by omega
 rw[hto,hfl,if_neg hover]
 have hx:(ix=true∧top< -1022∧decide (top< -1022)=true∧(if ix=true then(if top< -1022 then(3:Int)else 1)else 0)=3)∨(ix=true∧¬top< -1022∧decide (top< -1022)=false∧(if ix=true then(if top< -1022 then(3:Int)else 1)else 0)=1)∨(ix=false∧(if ix=true then(if top< -1022 then(3:Int)else 1)else 0)=0):=by
  cases ix
  ·exact .inr (.inr ⟨rfl,by simp⟩)
  ·by_cases c:top< -1022
   ·exact .inl ⟨rfl,c,decide_eq_true c,by simp[c]⟩
   ·exact .inr (.inl ⟨rfl,c,decide_eq_false c,by simp[c]⟩)
 by_cases hq0:q=0
 ·have hu2:u= -1074:=by
   by_cases c:u= -1074
   ·exact c
   ·have:=q2 c;omega
  have hz:q+(u+1074).toNat*4503599627370496=0:=by rw[hq0,hu2];rfl
  rw[hz]
  have hm:makeQ ⟨n1,q,u⟩=(false,0,0,0):=by
   unfold makeQ
   rw[bareD_zero (show(⟨n1,q,u⟩:Dn).m=0 from hq0)]
   rfl
  have MK:=Lib.hid (fun w v (h:RdN w v (digs BB q)) (hT:Tab w)=>Make_q (h.num (by omega)) hT (by omega) (by omega) hm)
  have EX:=Lib.hid (fun w v (h:RdN w v (digs BB 0)) (hT:Tab w)=>exact_nil (n:=false) (E:=0) (h.num (by decide)) hT (by decide) (by decide))
  have SG:Hid (∀w,Calls Tryz.prog 82 #[.int .u64 0,.bool n1] w (fun e w'=>e= .returned (L64 (signedB 0 n1))∧w'=w)):=Lib.hid (fun w=>signed_n (w:=w) (b:=0) (neg:=n1) (by decide))
  obtain⟨b,hbb⟩:∃b,signedB 0 n1=b:=⟨_,rfl⟩
  rw[hbb]at SG⊢
  have wt:=wwI bt
  have wt':=iwI bt
  have ho2:=or_2
  rcases hx with⟨rfl,-,dx,hx⟩|⟨rfl,-,dx,hx⟩|⟨rfl,hx⟩
  all_goals
   rw[hx]
   clear e hf d0 d3 sM ht ht' h0 rF ed1 c1 c2 hu hw q1 q2 bu bE1 bs bt hq54 hsz hfl hto hover hlt hsig hq0 hu2 hz hm hbb hx
   go_enter Tryz.func55,Tryz.ntmps55
   go_upto_region 2 with
    (first
      |(go_at_call 83;(with_reducible refine(RG.out _ _ (h.below (below_alloc _ _)) (hT.below (below_alloc _ _))).mono ?_);rintro e w1 ⟨vx1,rfl,x1,hb1⟩;have B1:=(below_alloc _ _).trans (hb1.mono (below_alloc _ _).size);have m1:=((h.below (below_alloc _ _))).below hb1;have T1:=((hT.below (below_alloc _ _))).below hb1;have P1:=((blk_new)).below hb1;obtain⟨cP0_1,cP1_1,cP2_1,fP0_1,fP1_1,fP2_1,sP_1⟩:=P1.open3;obtain⟨ax1,kx1,rfl,-⟩:=x1.view;try simp only[List.length_nil]at x1)
      |fail)
   have P5:=P1.set3 (.bool n1) (.slice ax1 (digs BB M1).length kx1) (.int .i64 E1)
   have x5:=x1.set3 P1 dcells (.bool n1) (.slice ax1 (digs BB M1).length kx1) (.int .i64 E1)
   have B5:=below_set3b (b:=w.heap.size) B1 (Nat.le_refl _) (.bool n1) (.slice ax1 (digs BB M1).length kx1) (.int .i64 E1)
   clear cP0_1 cP1_1 cP2_1 fP0_1 fP1_1 fP2_1 sP_1 P1 x1 B1 T1 m1 hb1
   generalize ((w1.setCell ⟨w.heap.size,0,none⟩ (.bool n1)).setCell ⟨w.heap.size,1,none⟩ (.slice ax1 (digs BB M1).length kx1)).setCell ⟨w.heap.size,2,none⟩ (.int .i64 E1)=w5 at*
   have T5:=hT.below B5
   obtain⟨cP0_5,cP1_5,cP2_5,fP0_5,fP1_5,fP2_5,sP_5⟩:=P5.open3
   go_wp2_with
    (first
      |(go_at_call 69;(with_reducible refine(TP.out _ _ x5 T5).mono ?_);rintro e w6 ⟨rfl,hb6⟩;have B6:=B5.trans (hb6.mono B5.size);have x6:=x5.below hb6;have T6:=T5.below hb6;have P6:=P5.below hb6;clear x5 T5 P5;obtain⟨cP0_6,cP1_6,cP2_6,fP0_6,fP1_6,fP2_6,sP_6⟩:=P6.open3)
      |(go_at_call 84;(with_reducible refine(WH.out _ _ x6 T6).mono ?_);rintro e w7 ⟨vz7,rfl,z7,hb7⟩;have B7:=B6.trans (hb7.mono B6.size);have x7:=x6.below hb7;have T7:=T6.below hb7;have P7:=P6.below hb7;clear x6 T6 P6;clear cP0_6 cP1_6 cP2_6 fP0_6 fP1_6 fP2_6 sP_6;obtain⟨cP0_7,cP1_7,cP2_7,fP0_7,fP1_7,fP2_7,sP_7⟩:=P7.open3)
      |(go_at_call 47;(with_reducible refine(MK.out _ _ z7 T7).mono ?_);rintro e w8 ⟨vy8,rfl,y8,hb8⟩;have B8:=B7.trans (hb8.mono B7.size);have x8:=x7.below hb8;have T8:=T7.below hb8;have P8:=P7.below hb8;have z8:=z7.below hb8;clear x7 T7 P7 z7;clear cP0_7 cP1_7 cP2_7 fP0_7 fP1_7 fP2_7 sP_7;obtain⟨cP0_8,cP1_8,cP2_8,fP0_8,fP1_8,fP2_8,sP_8⟩:=P8.open3;obtain⟨ay8,ky8,rfl,-⟩:=y8.view;try simp only[List.length_nil]at y8)
      |(go_at_call 85;(with_reducible refine(EX.out _ _ (y8.below (below_alloc _ _)) (T8.below (below_alloc _ _))).mono ?_);rintro e w9 ⟨rfl,hb9⟩;have hb9':=(below_a hb9);have B9:=B8.trans (hb9'.mono B8.size);have x9:=x8.below hb9';have T9:=T8.below hb9';have P9:=P8.below hb9';have z9:=z8.below hb9';have y9:=y8.below hb9';clear x8 T8 P8 z8 y8;clear cP0_8 cP1_8 cP2_8 fP0_8 fP1_8 fP2_8 sP_8;obtain⟨cP0_9,cP1_9,cP2_9,fP0_9,fP1_9,fP2_9,sP_9⟩:=P9.open3)
      |(go_at_call 82;(with_reducible refine(SG.out _).mono ?_);rintro e w10 ⟨rfl,rfl⟩)
      |fail)
   all_goals
    go_ret3
    exact⟨rfl,by assumption⟩
 ·obtain⟨⟨n2,M2,E2⟩,e2⟩:∃d,bareD ⟨n1,q,u⟩=d:=⟨_,rfl⟩
  obtain rfl:n2=n1:=by rw[bareD_pos hq0]at e2;injection e2 with e2 _;exact e2.symm
  obtain⟨o2,sM2,r1,r2,hfit,-⟩:=exact_size hq0 q1 (by omega) (by omega) q2 e2
  obtain⟨t3,hE2,hb⟩:=hfit hlt
  have hm:makeQ ⟨n2,q,u⟩=(n2,M2,E2,0):=by
   unfold makeQ
   rw[e2]
   dsimp only
   rw[if_pos (by unfold fitsE;rw[decide_eq_true (by omega),decide_eq_true (by omega)];rfl)]
  have MK:=Lib.hid (fun w v (h:RdN w v (digs BB q)) (hT:Tab w)=>Make_q (h.num (by omega)) hT (by omega) (by omega) hm)
  have EX:=Lib.hid (fun w v (h:RdN w v (digs BB M2)) (hT:Tab w)=>exact_ok h hT o2 (by omega) (by omega) (by omega) rfl t3 rfl hE2 hb)
  have SG:=Lib.hid (fun w=>signed_again (w:=w) (neg:=n2) hsig)
  obtain⟨b,hbb⟩:∃b,signedB (q+(u+1074).toNat*4503599627370496) n2=b:=⟨_,rfl⟩
  rw[hbb]at SG EX⊢
  have wt:=wwI bt
  have wt':=iwI bt
  have ho2:=or_2
  rcases hx with⟨rfl,-,dx,hx⟩|⟨rfl,-,dx,hx⟩|⟨rfl,hx⟩
  all_goals
   rw[hx]
   clear e hf d0 d3 sM ht ht' h0 rF ed1 c1 c2 hu hw q1 q2 bu bE1 bs bt hq54 hsz hfl hto hover hlt hsig hq0 e2 o2 sM2 r1 r2 hfit t3 hE2 hb hm hbb hx
   go_enter Tryz.func55,Tryz.ntmps55
   go_upto_region 2 with
    (first
      |(go_at_call 83;(with_reducible refine(RG.out _ _ (h.below (below_alloc _ _)) (hT.below (below_alloc _ _))).mono ?_);rintro e w1 ⟨vx1,rfl,x1,hb1⟩;have B1:=(below_alloc _ _).trans (hb1.mono (below_alloc _ _).size);have m1:=((h.below (below_alloc _ _))).below hb1;have T1:=((hT.below (below_alloc _ _))).below hb1;have P1:=((blk_new)).below hb1;obtain⟨cP0_1,cP1_1,cP2_1,fP0_1,fP1_1,fP2_1,sP_1⟩:=P1.open3;obtain⟨ax1,kx1,rfl,-⟩:=x1.view;try simp only[List.length_nil]at x1)
      |fail)
   have P5:=P1.set3 (.bool n2) (.slice ax1 (digs BB M1).length kx1) (.int .i64 E1)
   have x5:=x1.set3 P1 dcells (.bool n2) (.slice ax1 (digs BB M1).length kx1) (.int .i64 E1)
   have B5:=below_set3b (b:=w.heap.size) B1 (Nat.le_refl _) (.bool n2) (.slice ax1 (digs BB M1).length kx1) (.int .i64 E1)
   clear cP0_1 cP1_1 cP2_1 fP0_1 fP1_1 fP2_1 sP_1 P1 x1 B1 T1 m1 hb1
   generalize ((w1.setCell ⟨w.heap.size,0,none⟩ (.bool n2)).setCell ⟨w.heap.size,1,none⟩ (.slice ax1 (digs BB M1).length kx1)).setCell ⟨w.heap.size,2,none⟩ (.int .i64 E1)=w5 at*
   have T5:=hT.below B5
   obtain⟨cP0_5,cP1_5,cP2_5,fP0_5,fP1_5,fP2_5,sP_5⟩:=P5.open3
   go_wp2_with
    (first
      |(go_at_call 69;(with_reducible refine(TP.out _ _ x5 T5).mono ?_);rintro e w6 ⟨rfl,hb6⟩;have B6:=B5.trans (hb6.mono B5.size);have x6:=x5.below hb6;have T6:=T5.below hb6;have P6:=P5.below hb6;clear x5 T5 P5;obtain⟨cP0_6,cP1_6,cP2_6,fP0_6,fP1_6,fP2_6,sP_6⟩:=P6.open3)
      |(go_at_call 84;(with_reducible refine(WH.out _ _ x6 T6).mono ?_);rintro e w7 ⟨vz7,rfl,z7,hb7⟩;have B7:=B6.trans (hb7.mono B6.size);have x7:=x6.below hb7;have T7:=T6.below hb7;have P7:=P6.below hb7;clear x6 T6 P6;clear cP0_6 cP1_6 cP2_6 fP0_6 fP1_6 fP2_6 sP_6;obtain⟨cP0_7,cP1_7,cP2_7,fP0_7,fP1_7,fP2_7,sP_7⟩:=P7.open3)
      |(go_at_call 47;(with_reducible refine(MK.out _ _ z7 T7).mono ?_);rintro e w8 ⟨vy8,rfl,y8,hb8⟩;have B8:=B7.trans (hb8.mono B7.size);have x8:=x7.below hb8;have T8:=T7.below hb8;have P8:=P7.below hb8;have z8:=z7.below hb8;clear x7 T7 P7 z7;clear cP0_7 cP1_7 cP2_7 fP0_7 fP1_7 fP2_7 sP_7;obtain⟨cP0_8,cP1_8,cP2_8,fP0_8,fP1_8,fP2_8,sP_8⟩:=P8.open3;obtain⟨ay8,ky8,rfl,-⟩:=y8.view;try simp only[List.length_nil]at y8)
      |(go_at_call 85;(with_reducible refine(EX.out _ _ (y8.below (below_alloc _ _)) (T8.below (below_alloc _ _))).mono ?_);rintro e w9 ⟨rfl,hb9⟩;have hb9':=(below_a hb9);have B9:=B8.trans (hb9'.mono B8.size);have x9:=x8.below hb9';have T9:=T8.below hb9';have P9:=P8.below hb9';have z9:=z8.below hb9';have y9:=y8.below hb9';clear x8 T8 P8 z8 y8;clear cP0_8 cP1_8 cP2_8 fP0_8 fP1_8 fP2_8 sP_8;obtain⟨cP0_9,cP1_9,cP2_9,fP0_9,fP1_9,fP2_9,sP_9⟩:=P9.open3)
      |(go_at_call 82;(with_reducible refine(SG.out _).mono ?_);rintro e w10 ⟨rfl,rfl⟩)
      |fail)
   all_goals
    go_ret3
    exact⟨rfl,by assumption⟩
end Go.Proofs.YtffaefjkpipjnaaGreatDoor

namespace Go.Proofs.YtffaefjkpipjnaaGreatDoor
set_option linter.unusedVariables false
set_option linter.unusedSimpArgs false
set_option maxRecDepth 100000
open Go.RowKit
def hb (h:Bool):Nat:=if h then 1 else 0
theorem parts_val {M q:Nat}{E u:Int}{h b:Bool}(hp:partsP M E u=(q,h,b)):
 ((2*q+hb h:Nat):Rat)≤(M:Rat)*pw E*pw (1-u)∧(M:Rat)*pw E*pw (1-u)<((2*q+hb h:Nat):Rat)+1∧(b=false→(M:Rat)*pw E*pw (1-u)=((2*q+hb h:Nat):Rat))∧(b=true→((2*q+hb h:Nat):Rat)<(M:Rat)*pw E*pw (1-u)):=by
 rw[Rat.mul_assoc,←pw_add]
 unfold partsP at hp
 by_cases hle:u≤E
 ·rw[if_pos hle]at hp
  injection hp with z1 z2;injection z2 with z2 z3
  subst z2 z3
  have e1:E+(1-u)=(((E-u).toNat+1:Nat):Int):=by omega
  have e2:(M:Rat)*pw (E+(1-u))=((2*q+hb false:Nat):Rat):=by
   rw[e1,pw_nat,←z1,←Rat.natCast_mul]
   congr 1
   rw[Nat.pow_succ,show hb false=0 from rfl]
   generalize 2^(E-u).toNat=p
   rw[←Nat.mul_assoc];omega
  rw[e2]
  exact⟨Rat.le_refl,by grind,fun _=>rfl,fun h=>by cases h⟩
 ·rw[if_neg hle]at hp
  injection hp with z1 z2;injection z2 with z2 z3
  obtain⟨s,hs⟩:∃s:Nat,(u-E).toNat=s+1:=⟨(u-E).toNat-1,by omega⟩
  rw[hs,show s+1-1=s from rfl]at z2 z3
  rw[hs,Nat.pow_succ,←Nat.div_div_eq_div_mul]at z1
  have hT:2*q+hb h=M/2^s:=by
   rw[←z1,←z2]
   unfold hb
   have:=Nat.mod_two_eq_zero_or_one (M/2^s)
   generalize M/2^s=y at*
   by_cases hy:y%2=1
   ·rw[decide_eq_true hy,if_pos rfl];omega
   ·rw[decide_eq_false hy,if_neg (by decide)];omega
  have e1:E+(1-u)= -(s:Int):=by omega
  have hp2:=Nat.two_pow_pos s
  have hpw:=pw_pos (-(s:Int))
  have hu:pw (-(s:Int))*((2^s:Nat):Rat)=1:=by rw[←pw_nat];exact pw_neg (s:Int)
  have hM:=Nat.div_add_mod M (2^s)
  have hr:=Nat.mod_lt M hp2
  have hMq:(M:Rat)*pw (-(s:Int))=((M/2^s:Nat):Rat)+((M%2^s:Nat):Rat)*pw (-(s:Int)):=by
   have:(M:Rat)=((2^s:Nat):Rat)*((M/2^s:Nat):Rat)+((M%2^s:Nat):Rat):=by
    rw[←Rat.natCast_mul,←Rat.natCast_add,hM]
   conv=>lhs;rw[this]
   grind
  rw[e1,hMq,hT]
  have hrq:((M%2^s:Nat):Rat)*pw (-(s:Int))<1:=by
   have:=Rat.mul_lt_mul_of_pos_right (Rat.natCast_lt_natCast.2 hr) hpw
   rw[Rat.mul_comm ((2^s:Nat):Rat),hu]at this
   exact this
  have hr0:0≤((M%2^s:Nat):Rat)*pw (-(s:Int)):=Rat.mul_nonneg Rat.natCast_nonneg (Rat.le_of_lt hpw)
  refine⟨by grind,by grind,fun hb0=>?_,fun hb1=>?_⟩
  ·have h0:M%2^s=0:=by
    rw[hb0]at z3
    have:=of_decide_eq_false z3
    omega
   rw[h0]
   have:((0:Nat):Rat)*pw (-(s:Int))=0:=Rat.zero_mul _
   grind
  ·have h1:0<M%2^s:=by
    rw[hb1]at z3
    have:=of_decide_eq_true z3
    omega
   have:0<((M%2^s:Nat):Rat)*pw (-(s:Int)):=Rat.mul_pos (Rat.natCast_pos.2 h1) hpw
   grind
theorem top_ge {n:Bool}{M:Nat}{E t:Int}(h:pw t≤(M:Rat)*pw E):t≤topD ⟨n,M,E⟩∧M≠0:=by
 have h0:M≠0:=by
  intro h'
  rw[h']at h
  have:=pw_pos t
  have:((0:Nat):Rat)*pw E=0:=Rat.zero_mul _
  grind
 have a2:(M:Rat)<((2^bitN M:Nat):Rat):=Rat.natCast_lt_natCast.2 (bitN_lt M)
 have b2:=Rat.mul_lt_mul_of_pos_right a2 (pw_pos E)
 rw[←pw_nat,←pw_add]at b2
 refine⟨?_,h0⟩
 unfold topD
 dsimp only
 rcases Int.lt_or_le ((bitN M:Int)-1+E) t with c|c
 ·have:=pw_mono (show((bitN M:Nat):Int)+E≤t by omega)
  exfalso;grind
 ·exact c
theorem top_lt {n:Bool}{M:Nat}{E t:Int}(h0:M≠0) (h:(M:Rat)*pw E<pw t):topD ⟨n,M,E⟩<t:=by
 have a1:((2^(bitN M-1):Nat):Rat)≤(M:Rat):=Rat.natCast_le_natCast.2 (lt_bitN.1 (by have:=bitN_pos h0;omega))
 have b1:=Rat.mul_le_mul_of_nonneg_right a1 (Rat.le_of_lt (pw_pos E))
 rw[←pw_nat,←pw_add]at b1
 have hb:=bitN_pos h0
 unfold topD
 dsimp only
 rcases Int.lt_or_le ((bitN M:Int)-1+E) t with c|c
 ·exact c
 ·have:=pw_mono (show t≤((bitN M-1:Nat):Int)+E by omega)
  exfalso;grind
theorem top_val {n:Bool}{M:Nat}{E t:Int}(h1:pw t≤(M:Rat)*pw E) (h2:(M:Rat)*pw E<pw (t+1)):topD ⟨n,M,E⟩=t:=by
 have h0:M≠0:=by
  intro h
  rw[h]at h1
  have:=pw_pos t
  have:((0:Nat):Rat)*pw E=0:=Rat.zero_mul _
  grind
 have a1:((2^(bitN M-1):Nat):Rat)≤(M:Rat):=Rat.natCast_le_natCast.2 (lt_bitN.1 (by have:=bitN_pos h0;omega))
 have a2:(M:Rat)<((2^bitN M:Nat):Rat):=Rat.natCast_lt_natCast.2 (bitN_lt M)
 have hp:=pw_pos E
 have b1:=Rat.mul_le_mul_of_nonneg_right a1 (Rat.le_of_lt hp)
 have b2:=Rat.mul_lt_mul_of_pos_right a2 hp
 rw[←pw_nat,←pw_add]at b1 b2
 have hb:=bitN_pos h0
 unfold topD
 dsimp only
 have c1:¬((bitN M:Int)-1+E+1≤t):=fun h=>by
  have:=pw_mono (show((bitN M:Nat):Int)+E≤t by omega)
  grind
 have c2:¬(t+1≤(bitN M:Int)-1+E):=fun h=>by
  have:=pw_mono (show t+1≤((bitN M-1:Nat):Int)+E by omega)
  grind
 omega
end Go.Proofs.YtffaefjkpipjnaaGreatDoor
