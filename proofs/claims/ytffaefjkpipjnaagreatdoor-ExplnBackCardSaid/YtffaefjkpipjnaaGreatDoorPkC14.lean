/- Rounding, plainly: what package round tells of bare dyads. Conditions: none. -/
import Derived.Test.YtffaefjkpipjnaaGreatDoorPkC13
import Derived.Test.YtffaefjkpipjnaaGreatDoorPkC11
import Derived.Deep.CutBlock
import Derived.Deep.RegionHeld3
namespace Go.Proofs.YtffaefjkpipjnaaGreatDoor
set_option maxRecDepth 100000
open Go.RowKit
def upB (dir:Int) (neg:Bool):Bool:=decide (dir=2)&&!neg||decide (dir=3)&&neg
def awayB (dir:Int) (neg odd half below:Bool):Bool:=if dir=0 then half&&(below||odd)else(half||below)&&upB dir neg
def partsP (m:Nat) (E unit:Int):Nat×Bool×Bool:=
 if unit≤E then(m*2^(E-unit).toNat,false,false)
 else(m/2^(unit-E).toNat,decide (m/2^((unit-E).toNat-1)%2=1),decide (m%2^((unit-E).toNat-1)≠0))
def wholeP (neg:Bool) (m:Nat) (E:Int) (more:Bool) (dir unit:Int):Nat×Bool:=
 ((partsP m E unit).1+(if awayB dir neg (decide ((partsP m E unit).1%2=1)) (partsP m E unit).2.1 ((partsP m E unit).2.2||more)then 1 else 0),(partsP m E unit).2.1||((partsP m E unit).2.2||more))
def signedB (b:Nat) (neg:Bool):Nat:=if neg then b+9223372036854775808 else b
def overB (neg:Bool) (dir:Int):Nat:=signedB (if decide (dir=0)||upB dir neg then 9218868437227405312 else 9218868437227405311) neg
def underB (neg:Bool) (dir:Int):Nat:=signedB (if upB dir neg then 1 else 0) neg
def exactB (n:Bool) (m:Nat) (E:Int):Nat×Bool:=
 if m=0 then(0,true)
 else if 1023<topD ⟨n,m,E⟩∨E<max (topD ⟨n,m,E⟩-52) (-1074)then(0,false)
 else(signedB (if 4503599627370496≤m*2^(E-max (topD ⟨n,m,E⟩-52) (-1074)).toNat then m*2^(E-max (topD ⟨n,m,E⟩-52) (-1074)).toNat%4503599627370496+(max (topD ⟨n,m,E⟩-52) (-1074)+1075).toNat*4503599627370496 else m*2^(E-max (topD ⟨n,m,E⟩-52) (-1074)).toNat) n,true)
theorem iwN {n:Nat}(h:n≤1099511627776):IntKind.i64.wrap (n:Int)=(n:Int):=by rw[IntKind.wrap_i64];omega
theorem iwI {n:Int}(h:n.natAbs≤1099511627776):IntKind.i64.wrap n=n:=by rw[IntKind.wrap_i64];omega
theorem uwN {n:Nat}(h:n≤1099511627776):IntKind.u64.wrap (n:Int)=(n:Int):=by rw[IntKind.wrap_u64];omega
theorem wwN {n:Nat}(h:n≤1099511627776):wrap64 (n:Int)=(n:Int):=by unfold wrap64;omega
theorem wwI {n:Int}(h:n.natAbs≤1099511627776):wrap64 n=n:=by unfold wrap64;omega
theorem and_1 (x:Nat) (hx:x<18446744073709551616):bits .and .u64 (x:Int) 1=((x%2:Nat):Int):=by
 have:=bits_mask .u64 64 (by decide) (fun n h0 h1=>by rw[IntKind.wrap_u64];omega) 1 (by decide) x (by omega) (by omega)
 have e:((2:Int)^1-1)=1:=by decide
 rw[e]at this
 rw[this];omega
theorem and_frac (x:Nat) (hx:x<18446744073709551616):bits .and .u64 (x:Int) 4503599627370495=((x%4503599627370496:Nat):Int):=by
 have:=bits_mask .u64 64 (by decide) (fun n h0 h1=>by rw[IntKind.wrap_u64];omega) 52 (by decide) x (by omega) (by omega)
 have e:((2:Int)^52-1)=4503599627370495:=by decide
 rw[e]at this
 rw[this];omega
theorem or_top {b:Nat}(hb:b<9223372036854775808):bits .or .u64 (b:Int) 9223372036854775808=((b+9223372036854775808:Nat):Int):=by
 have:=(bits_nat .u64 64 (by decide) (fun n h0 h1=>by rw[IntKind.wrap_u64];omega) b 9223372036854775808 (by omega) (by decide)).2
 rw[show((9223372036854775808:Nat):Int)=9223372036854775808 from rfl]at this
 rw[this]
 have h:=Nat.two_pow_add_eq_or_of_lt (i:=63) (b:=b) (by omega) 1
 rw[show 2^63*1=9223372036854775808 by decide]at h
 rw[Nat.or_comm,←h,Nat.add_comm]
theorem or_field {f k:Nat}(hf:f<4503599627370496) (hk:k<2048):bits .or .u64 (f:Int) ((k*4503599627370496:Nat):Int)=((f+k*4503599627370496:Nat):Int):=by
 rw[(bits_nat .u64 64 (by decide) (fun n h0 h1=>by rw[IntKind.wrap_u64];omega) f (k*4503599627370496) (by omega) (by omega)).2]
 have h:=Nat.two_pow_add_eq_or_of_lt (i:=52) (b:=f) (by omega) k
 rw[show 2^52=4503599627370496 by decide]at h
 rw[Nat.or_comm,Nat.mul_comm k,←h,Nat.add_comm]
end Go.Proofs.YtffaefjkpipjnaaGreatDoor
namespace Go.Proofs.YtffaefjkpipjnaaGreatDoor
set_option maxRecDepth 100000
open Go.RowKit
theorem odd_n {w:World}{v:Value}{A:Nat}(h:Num w v A):Calls Tryz.prog 120 #[v] w (fun e w'=>e= .returned (.bool (decide (A%2=1)))∧w'=w):=by
 obtain⟨l,h1,h2,h3,rfl⟩:=h
 have HL:=Lib.hid (limb_any h1 (i:=0) (by omega) (by omega))
 obtain⟨x,hx,hxb,hxm⟩:∃x,(if(0:Int)<0 then 0 else l.getD (0:Int).toNat 0)=x∧x<18446744073709551616∧val BB l%2=x%2:=by
  refine⟨_,rfl,?_,?_⟩
  ·rw[if_neg (by omega)];exact h2.getD BB_pos _
  ·rw[if_neg (by omega)]
   cases l with
   |nil=>rfl
   |cons x t=>rw[val_cons];show(x+BB*val BB t)%2=x%2;rw[show BB=2*9223372036854775808 from rfl,Nat.mul_assoc];omega
 rw[hx]at HL
 rw[hxm]
 have ha:=and_1 x hxb
 clear h1 h2 h3 hx hxm hxb
 rcases Nat.mod_two_eq_zero_or_one x with hm|hm
 all_goals
  rw[hm]at ha⊢
  go_enter Tryz.func120,Tryz.ntmps120
  go_wp2_with (go_at_call 126;(with_reducible refine HL.out.mono ?_);rintro e w1 ⟨rfl,rfl⟩)
  all_goals
   go_ret
   exact⟨rfl,rfl⟩
theorem rup_n {w:World}{dir:Int}{neg:Bool}:Calls Tryz.prog 81 #[.int .i64 dir,.bool neg] w (fun e w'=>e= .returned (.bool (upB dir neg))∧w'=w):=by
 unfold upB
 by_cases h2:dir=2
 ·subst h2
  cases neg
  all_goals
   go_enter Tryz.func81,Tryz.ntmps81
   go_wp2
   all_goals
    go_ret
    exact⟨rfl,rfl⟩
 ·by_cases h3:dir=3
  ·subst h3
   cases neg
   all_goals
    go_enter Tryz.func81,Tryz.ntmps81
    go_wp2
    all_goals
     go_ret
     exact⟨rfl,rfl⟩
  ·have b2:(dir==2)=false:=beq_false_of_ne h2
   have b3:(dir==3)=false:=beq_false_of_ne h3
   rw[decide_eq_false h2,decide_eq_false h3]
   cases neg
   all_goals
    go_enter Tryz.func81,Tryz.ntmps81
    go_wp2
    all_goals
     go_ret
     exact⟨rfl,rfl⟩
theorem away_n {w:World}{dir:Int}{neg odd half below:Bool}:Calls Tryz.prog 119 #[.int .i64 dir,.bool neg,.bool odd,.bool half,.bool below] w (fun e w'=>e= .returned (.bool (awayB dir neg odd half below))∧w'=w):=by
 unfold awayB
 by_cases h0:dir=0
 ·subst h0
  rw[if_pos rfl]
  cases half<;>cases below
  all_goals
   go_enter Tryz.func119,Tryz.ntmps119
   go_wp2
   all_goals
    go_ret
    exact⟨by simp,rfl⟩
 ·rw[if_neg h0]
  have b0:(dir==0)=false:=beq_false_of_ne h0
  obtain⟨u,hu⟩:∃u,upB dir neg=u:=⟨_,rfl⟩
  have HU:=Lib.hid (fun w=>rup_n (w:=w) (dir:=dir) (neg:=neg))
  rw[hu]at HU⊢
  clear hu
  cases half<;>cases below
  all_goals
   go_enter Tryz.func119,Tryz.ntmps119
   go_wp2_with (go_at_call 81;(with_reducible refine(HU.out _).mono ?_);rintro e w1 ⟨rfl,rfl⟩)
   all_goals
    go_ret
    exact⟨rfl,rfl⟩
theorem signed_n {w:World}{b:Nat}{neg:Bool}(hb:b<9223372036854775808):Calls Tryz.prog 82 #[L64 b,.bool neg] w (fun e w'=>e= .returned (L64 (signedB b neg))∧w'=w):=by
 have ho:=or_top hb
 unfold signedB
 cases neg
 all_goals
  go_enter Tryz.func82,Tryz.ntmps82
  go_wp2
  all_goals
   go_ret
   exact⟨rfl,rfl⟩
theorem over_n {w:World}{dir:Int}{neg:Bool}:Calls Tryz.prog 53 #[.bool neg,.int .i64 dir] w (fun e w'=>e= .returned (.tuple #[L64 (overB neg dir),.int .u8 5])∧w'=w):=by
 unfold overB
 obtain⟨u,hu⟩:∃u,upB dir neg=u:=⟨_,rfl⟩
 have HU:=Lib.hid (fun w=>rup_n (w:=w) (dir:=dir) (neg:=neg))
 rw[hu]at HU⊢
 clear hu
 have HA:=Lib.hid (fun w=>signed_n (w:=w) (b:=9218868437227405312) (neg:=neg) (by decide))
 have HB:=Lib.hid (fun w=>signed_n (w:=w) (b:=9218868437227405311) (neg:=neg) (by decide))
 have HA:RowKit.Hid (∀w,Calls Tryz.prog 82 #[.int .u64 9218868437227405312,.bool neg] w (fun e w'=>e= .returned (L64 (signedB 9218868437227405312 neg))∧w'=w)):=HA
 have HB:RowKit.Hid (∀w,Calls Tryz.prog 82 #[.int .u64 9218868437227405311,.bool neg] w (fun e w'=>e= .returned (L64 (signedB 9218868437227405311 neg))∧w'=w)):=HB
 by_cases h0:dir=0
 ·subst h0
  rw[decide_eq_true rfl,Bool.true_or,if_pos rfl]
  go_enter Tryz.func53,Tryz.ntmps53
  go_wp2_with (first|(go_at_call 81;(with_reducible refine(HU.out _).mono ?_);rintro e w1 ⟨rfl,rfl⟩)|(go_at_call 82;(with_reducible refine(HA.out _).mono ?_);rintro e w1 ⟨rfl,rfl⟩)|fail)
  all_goals
   go_ret2
   exact⟨rfl,rfl⟩
 ·have b0:(dir==0)=false:=beq_false_of_ne h0
  rw[decide_eq_false h0,Bool.false_or]
  cases u
  ·rw[if_neg (by decide)]
   go_enter Tryz.func53,Tryz.ntmps53
   go_wp2_with (first|(go_at_call 81;(with_reducible refine(HU.out _).mono ?_);rintro e w1 ⟨rfl,rfl⟩)|(go_at_call 82;(with_reducible refine(HB.out _).mono ?_);rintro e w1 ⟨rfl,rfl⟩)|fail)
   all_goals
    go_ret2
    exact⟨rfl,rfl⟩
  ·rw[if_pos rfl]
   go_enter Tryz.func53,Tryz.ntmps53
   go_wp2_with (first|(go_at_call 81;(with_reducible refine(HU.out _).mono ?_);rintro e w1 ⟨rfl,rfl⟩)|(go_at_call 82;(with_reducible refine(HA.out _).mono ?_);rintro e w1 ⟨rfl,rfl⟩)|fail)
   all_goals
    go_ret2
    exact⟨rfl,rfl⟩
theorem under_n {w:World}{dir:Int}{neg:Bool}:Calls Tryz.prog 54 #[.bool neg,.int .i64 dir] w (fun e w'=>e= .returned (.tuple #[L64 (underB neg dir),.int .u8 3])∧w'=w):=by
 unfold underB
 obtain⟨u,hu⟩:∃u,upB dir neg=u:=⟨_,rfl⟩
 have HU:=Lib.hid (fun w=>rup_n (w:=w) (dir:=dir) (neg:=neg))
 rw[hu]at HU⊢
 clear hu
 have HA:=Lib.hid (fun w=>signed_n (w:=w) (b:=1) (neg:=neg) (by decide))
 have HB:=Lib.hid (fun w=>signed_n (w:=w) (b:=0) (neg:=neg) (by decide))
 have HA:RowKit.Hid (∀w,Calls Tryz.prog 82 #[.int .u64 1,.bool neg] w (fun e w'=>e= .returned (L64 (signedB 1 neg))∧w'=w)):=HA
 have HB:RowKit.Hid (∀w,Calls Tryz.prog 82 #[.int .u64 0,.bool neg] w (fun e w'=>e= .returned (L64 (signedB 0 neg))∧w'=w)):=HB
 cases u
 ·rw[if_neg (by decide)]
  go_enter Tryz.func54,Tryz.ntmps54
  go_wp2_with (first|(go_at_call 81;(with_reducible refine(HU.out _).mono ?_);rintro e w1 ⟨rfl,rfl⟩)|(go_at_call 82;(with_reducible refine(HB.out _).mono ?_);rintro e w1 ⟨rfl,rfl⟩)|fail)
  all_goals
   go_ret2
   exact⟨rfl,rfl⟩
 ·rw[if_pos rfl]
  go_enter Tryz.func54,Tryz.ntmps54
  go_wp2_with (first|(go_at_call 81;(with_reducible refine(HU.out _).mono ?_);rintro e w1 ⟨rfl,rfl⟩)|(go_at_call 82;(with_reducible refine(HA.out _).mono ?_);rintro e w1 ⟨rfl,rfl⟩)|fail)
  all_goals
   go_ret2
   exact⟨rfl,rfl⟩
end Go.Proofs.YtffaefjkpipjnaaGreatDoor
namespace Go.Proofs.YtffaefjkpipjnaaGreatDoor
set_option maxRecDepth 100000
open Go.RowKit Go.ChangeShapes Go.WideShapes
theorem parts_n {w:World}{v:Value}{n h b:Bool}{M q:Nat}{E unit:Int}(hv:RdN w v (digs BB M)) (hT:Tab w) (sM:bitN M≤60000) (e1:E.natAbs≤4294967296) (e2:unit.natAbs≤4294967296) (hs:bitN M+(E-unit).toNat≤65536) (hp:partsP M E unit=(q,h,b)):
 Calls Tryz.prog 118 #[.agg #[.bool n,v,.int .i64 E],.int .i64 unit] w (fun e w'=>∃v,e= .returned (.tuple #[v,.bool h,.bool b])∧RdN w' v (digs BB q)∧Below w.heap.size w w'):=by
 have hN:=hv.num (by omega)
 obtain⟨av,kv,rfl,-⟩:=hv.view
 unfold partsP at hp
 by_cases hle:unit≤E
 ·rw[if_pos hle]at hp
  injection hp with z1 z2;injection z2 with z2 z3
  subst z2 z3
  obtain⟨s,hsn⟩:∃s:Nat,(E-unit).toNat=s:=⟨_,rfl⟩
  rw[hsn]at z1 hs
  have SH:=Lib.hid (fun w v (h:Num w v M)=>shl_n h z1 (by rw[Nat.add_comm];exact hs))
  clear z1
  have hse:unit-E= -(s:Int):=by omega
  have bs:s≤1099511627776:=by omega
  have w3: -(-(s:Int))=(s:Int):=Int.neg_neg _
  have d1:decide (-(s:Int)≤0)=true:=decide_eq_true (by omega)
  clear hsn hle e1 e2 hs
  have w1:=wwI (n:= -(s:Int)) (by rw[Int.natAbs_neg,Int.natAbs_natCast];exact bs)
  have w1':=iwI (n:= -(s:Int)) (by rw[Int.natAbs_neg,Int.natAbs_natCast];exact bs)
  have w2:=wwN bs
  have w2':=iwN bs
  clear bs
  go_enter Tryz.func118,Tryz.ntmps118
  go_wp2_with
   (first
     |(go_at_call 100;(with_reducible refine(SH.out _ _ (hN.below (below_alloc _ _))).mono ?_);rintro e w1 ⟨vx1,rfl,x1,hb1⟩;have B1:=(below_alloc _ _).trans (hb1.mono (below_alloc _ _).size);have m1:=((hN.below (below_alloc _ _))).below hb1;have P1:=((blk_new)).below hb1;obtain⟨cP0_1,cP1_1,cP2_1,fP0_1,fP1_1,fP2_1,sP_1⟩:=P1.open3;obtain⟨ax1,kx1,rfl,-⟩:=x1.view;try simp only[List.length_nil]at x1)
     |fail)
  all_goals
   go_ret3
   exact⟨_,rfl,x1,by assumption⟩
 ·rw[if_neg hle]at hp
  revert hp
  obtain⟨s,hsn⟩:∃s:Nat,(unit-E).toNat=s:=⟨_,rfl⟩
  obtain⟨s1,hs1⟩:∃s1:Nat,s-1=s1:=⟨_,rfl⟩
  have hse:unit-E=(s:Int):=by omega
  have hse1:(s:Int)-1=(s1:Int):=by omega
  have bs:s≤9223372036854775807:=by omega
  have bs1:s1≤9223372036854775807:=by omega
  have bt:s≤1099511627776:=by omega
  have bt1:s1≤1099511627776:=by omega
  have d1:decide ((s:Int)≤0)=false:=decide_eq_false (by omega)
  have d2:s≠0:=by omega
  have sM':bitN M≤2560000:=by omega
  rw[hsn,hs1]
  clear hsn hle e1 e2 hs1 hs
  intro hp
  injection hp with z1 z2;injection z2 with z2 z3
  have S1:=Lib.hid (fun w v (h:Num w v M) (hT:Tab w)=>shr_n h hT z1 bs)
  have S2:=Lib.hid (fun w v (h:Num w v M) (hT:Tab w)=>shr_n (C:=M/2^s1) h hT rfl bs1)
  rw[z3]at S2
  obtain⟨H,hH⟩:∃H,M/2^s1=H:=⟨_,rfl⟩
  have sH:bitN H≤2560000:=by rw[←hH];exact Nat.le_trans (bitN_mono (Nat.div_le_self _ _)) sM'
  rw[hH]at S2 z2
  have OD:=Lib.hid (fun w v (h:RdN w v (digs BB H))=>odd_n (h.num sH))
  rw[z2]at OD
  clear z1 z2 z3 hH sH bs bs1
  have w2:=wwN bt
  have w2':=iwN bt
  have w3:=wwN bt1
  have w3':=iwN bt1
  clear bt bt1
  go_enter Tryz.func118,Tryz.ntmps118
  go_wp2_with
   (first
     |(go_at_call 116;(with_reducible refine(S1.out _ _ (hN.below (below_alloc _ _)) (hT.below (below_alloc _ _))).mono ?_);rintro e w1 ⟨vx1,rfl,x1,hb1⟩;have B1:=(below_alloc _ _).trans (hb1.mono (below_alloc _ _).size);have m1:=((hN.below (below_alloc _ _))).below hb1;have T1:=((hT.below (below_alloc _ _))).below hb1;have P1:=((blk_new)).below hb1;obtain⟨cP0_1,cP1_1,cP2_1,fP0_1,fP1_1,fP2_1,sP_1⟩:=P1.open3;obtain⟨ax1,kx1,rfl,-⟩:=x1.view;try simp only[List.length_nil]at x1)
     |(go_at_call 116;(with_reducible refine(S2.out _ _ m1 T1).mono ?_);rintro e w2 ⟨vy2,rfl,y2,hb2⟩;have B2:=B1.trans (hb2.mono B1.size);have m2:=m1.below hb2;have T2:=T1.below hb2;have P2:=P1.below hb2;have x2:=x1.below hb2;clear m1 T1 P1 x1;clear cP0_1 cP1_1 cP2_1 fP0_1 fP1_1 fP2_1 sP_1;obtain⟨cP0_2,cP1_2,cP2_2,fP0_2,fP1_2,fP2_2,sP_2⟩:=P2.open3;obtain⟨ay2,ky2,rfl,-⟩:=y2.view;try simp only[List.length_nil]at y2)
     |(go_at_call 120;(with_reducible refine(OD.out _ _ y2).mono ?_);rintro e w3 ⟨rfl,rfl⟩)
     |fail)
  all_goals
   go_ret3
   exact⟨_,rfl,by assumption,by assumption⟩
end Go.Proofs.YtffaefjkpipjnaaGreatDoor
namespace Go.Proofs.YtffaefjkpipjnaaGreatDoor
set_option maxRecDepth 100000
open Go.RowKit Go.ChangeShapes Go.WideShapes
theorem parts_size {M q:Nat}{E unit:Int}{h b:Bool}(hs:bitN M+(E-unit).toNat≤65536) (hp:partsP M E unit=(q,h,b)):bitN q≤65536:=by
 unfold partsP at hp
 by_cases hle:unit≤E
 ·rw[if_pos hle]at hp
  injection hp with z1 _
  rw[←z1]
  by_cases h0:M=0
  ·rw[h0,Nat.zero_mul,bitN_zero];omega
  ·rw[bitN_shift h0];omega
 ·rw[if_neg hle]at hp
  injection hp with z1 _
  rw[←z1]
  exact Nat.le_trans (bitN_mono (Nat.div_le_self _ _)) (by omega)
set_option maxHeartbeats 4000000 in
theorem whole_n {w:World}{v:Value}{n more ix:Bool}{M q:Nat}{E dir unit:Int}(hv:RdN w v (digs BB M)) (hT:Tab w) (sM:bitN M≤60000) (e1:E.natAbs≤4294967296) (e2:unit.natAbs≤4294967296) (hs:bitN M+(E-unit).toNat≤65536) (hw:wholeP n M E more dir unit=(q,ix)):
 Calls Tryz.prog 84 #[.agg #[.bool n,v,.int .i64 E],.bool more,.int .i64 dir,.int .i64 unit] w (fun e w'=>∃v,e= .returned (.tuple #[v,.bool ix])∧RdN w' v (digs BB q)∧Below w.heap.size w w'):=by
 obtain⟨q0,h,b,hp⟩:∃q0 h b,partsP M E unit=(q0,h,b):=⟨_,_,_,rfl⟩
 unfold wholeP at hw
 rw[hp]at hw
 simp only at hw
 have sq:=parts_size hs hp
 obtain⟨av,kv,rfl,-⟩:=hv.view
 have PT:=Lib.hid (fun w v (h:RdN w v (digs BB M)) (hT:Tab w)=>parts_n (n:=n) h hT sM e1 e2 hs hp)
 obtain⟨od,hod⟩:∃x,decide (q0%2=1)=x:=⟨_,rfl⟩
 have OD:=Lib.hid (fun w v (h:RdN w v (digs BB q0))=>odd_n (h.num (by omega)))
 rw[hod]at OD hw
 obtain⟨bb,hbb⟩:∃x,(b||more)=x:=⟨_,rfl⟩
 rw[hbb]at hw
 obtain⟨a,ha⟩:∃x,awayB dir n od h bb=x:=⟨_,rfl⟩
 have AW:=Lib.hid (fun w=>away_n (w:=w) (dir:=dir) (neg:=n) (odd:=od) (half:=h) (below:=bb))
 rw[ha]at AW hw
 have AD:=Lib.hid (fun w v u (h:RdN w v (digs BB q0)) (k:RdN w u (digs BB 1))=>add_n (h.num (by omega)) (k.num (by rw[bitN_one];omega)) (rfl:q0+1=q0+1))
 clear hp hod ha hs e1 e2 sM sq
 injection hw with z1 z2
 subst z1 z2
 cases a
 all_goals simp only[Bool.false_eq_true,if_false,if_true,Nat.add_zero]
 all_goals cases b
 all_goals first|(rw[Bool.false_or]at hbb;subst hbb)|(rw[Bool.true_or]at hbb;subst hbb)
 all_goals cases h
 all_goals first|rw[Bool.false_or]|rw[Bool.true_or]
 all_goals
  go_enter Tryz.func84,Tryz.ntmps84
  go_upto_region 3 with
   (first
     |(go_at_call 118;(with_reducible refine(PT.out _ _ (hv.below (below_alloc _ _)) (hT.below (below_alloc _ _))).mono ?_);rintro e w1 ⟨vq1,rfl,q1,hb1⟩;have B1:=(below_alloc _ _).trans (hb1.mono (below_alloc _ _).size);have m1:=((hv.below (below_alloc _ _))).below hb1;have T1:=((hT.below (below_alloc _ _))).below hb1;have P1:=((blk_new)).below hb1;obtain⟨cP0_1,cP1_1,cP2_1,fP0_1,fP1_1,fP2_1,sP_1⟩:=P1.open3;obtain⟨aq1,kq1,rfl,-⟩:=q1.view;try simp only[List.length_nil]at q1)
     |fail)
  have hAD:Below w1.heap.size w1 w1.drew:=below_drewN (Below.refl _ _) 1
  have q5:=q1.below hAD;have P5:=P1.below hAD;have B5:=B1.trans (hAD.mono B1.size);have T5:=T1.below hAD
  obtain⟨cP0_5,cP1_5,cP2_5,fP0_5,fP1_5,fP2_5,sP_5⟩:=P5.open3
  go_region_held3 (fun w'=>w'.cell? ⟨w.heap.size,0,none⟩=some (.bool n)∧w'.cell? ⟨w.heap.size,1,none⟩=some (.slice av (digs BB M).length kv)∧w'.cell? ⟨w.heap.size,2,none⟩=some (.int .i64 E)) (with_reducible exact⟨cP0_5,cP1_5,cP2_5⟩)
  (first
    |(go_at_call 120;(with_reducible refine(OD.out _ _ q5).mono ?_);rintro e w6 ⟨rfl,rfl⟩)
    |(go_at_call 119;(with_reducible refine(AW.out _).mono ?_);rintro e w7 ⟨rfl,rfl⟩)
    |fail)
  all_goals
   go_wp2_with
    (first
      |(go_at_call 101;(with_reducible refine(of_1).mono ?_);rintro e w6 ⟨vo6,rfl,o6,hb6⟩;have B6:=B5.trans (hb6.mono B5.size);have q6:=q5.below hb6;have T6:=T5.below hb6;clear q5 T5;obtain⟨ao6,ko6,rfl,-⟩:=o6.view;try simp only[List.length_nil]at o6)
      |(go_at_call 108;(with_reducible refine(AD.out _ _ _ q6 o6).mono ?_);rintro e w7 ⟨vs7,rfl,s7,hb7⟩;have B7:=B6.trans (hb7.mono B6.size);have q7:=q6.below hb7;have T7:=T6.below hb7;have o7:=o6.below hb7;clear q6 T6 o6;obtain⟨as7,ks7,rfl,-⟩:=s7.view;try simp only[List.length_nil]at s7)
      |fail)
   all_goals
    go_ret2
    exact⟨_,rfl,by assumption,by assumption⟩
end Go.Proofs.YtffaefjkpipjnaaGreatDoor
namespace Go.Proofs.YtffaefjkpipjnaaGreatDoor
set_option maxRecDepth 100000
open Go.RowKit Go.ChangeShapes Go.WideShapes
theorem nsmall_n {w:World}{v:Value}{A:Nat}(h:RdN w v (digs BB A)) (hA:A<BB):Calls Tryz.prog 95 #[v] w (fun e w'=>e= .returned (.tuple #[L64 A,.bool true])∧Below w.heap.size w w'):=by
 have hl:(digs BB A).length≤1:=by
  by_cases h0:A=0
  ·rw[h0,digs_zero];exact Nat.zero_le _
  ·rw[digs_pos BB_two (by omega),show A/BB=0 from Nat.div_eq_of_lt hA,digs_zero];exact Nat.le_refl _
 have hs:strip (digs BB A)=digs BB A:=by
  have:=strip_eq BB_two (dig_digs BB_two A)
  rw[val_digs BB_two]at this;exact this
 have hv:(digs BB A).getD 0 0=A:=by
  by_cases h0:A=0
  ·rw[h0,digs_zero];rfl
  ·rw[digs_pos BB_two (by omega)];exact Nat.mod_eq_of_lt hA
 have:=small_any h (by omega)
 rw[hs,if_pos hl,hv,decide_eq_true hl]at this
 exact this
set_option maxHeartbeats 2000000 in
theorem exact_ok {w:World}{v:Value}{n:Bool}{M b:Nat}{E top u:Int}(hv:RdN w v (digs BB M)) (hT:Tab w) (o:M%2=1) (sM:bitN M≤60000) (e1: -1073741824≤E) (e2:E≤1073741824) (ht:topD ⟨n,M,E⟩=top) (ht1:top≤1023) (hu:max (top-52) (-1074)=u) (hE:u≤E) (hb:exactB n M E=(b,true)):
 Calls Tryz.prog 85 #[.agg #[.bool n,v,.int .i64 E]] w (fun e w'=>e= .returned (.tuple #[L64 b,.bool true])∧Below w.heap.size w w'):=by
 have h0:M≠0:=by omega
 have ed:bareD ⟨n,M,E⟩=⟨n,M,E⟩:=bareD_odd' o (by omega) (by omega)
 have hf:fitsE E=true:=by unfold fitsE;rw[decide_eq_true (by omega),decide_eq_true (by omega)];rfl
 obtain⟨av,kv,rfl,-⟩:=hv.view
 have TP:=Lib.hid (fun w v (h:RdN w v (digs BB M)) (hT:Tab w)=>by
  have:=Top_n (h.num (by omega)) hT (by omega) (by omega) ed h0
  rw[ht]at this;exact this)
 have BA:=Lib.hid (fun w v (h:RdN w v (digs BB M)) (hT:Tab w)=>Bare_ok (h.num (by omega)) hT (by omega) (by omega) ed hf)
 have htop:=ht
 unfold topD at ht
 simp only at ht
 obtain⟨s,hs⟩:∃s:Nat,(E-u).toNat=s:=⟨_,rfl⟩
 have hse:E-u=(s:Int):=by omega
 have hbits:bitN M+s≤53:=by omega
 have hs1:s+bitN M≤65536:=by omega
 have bs:s≤1099511627776:=by omega
 have bt:(top-52).natAbs≤1099511627776:=by omega
 obtain⟨K,hK,hK1,hK2⟩:∃K:Nat,u+1075=(K:Int)∧1≤K∧K≤2046:=⟨(u+1075).toNat,by omega,by omega,by omega⟩
 have hKt:(u+1075).toNat=K:=by omega
 have bK:K≤1099511627776:=by omega
 have d1:decide (1023<top)=false:=decide_eq_false (by omega)
 have d2:decide (E<u)=false:=decide_eq_false (by omega)
 have hno:¬(1023<top∨E<u):=by omega
 have sM':bitN M≤2560000:=by omega
 clear ht ed hf e1 e2 o hE ht1
 unfold exactB at hb
 rw[if_neg h0,htop,hu,if_neg hno,hs,hKt]at hb
 injection hb with hb _
 obtain⟨m,hm⟩:∃m,M*2^s=m:=⟨_,rfl⟩
 have hm53:m<9007199254740992:=by
  have h1:=bitN_lt m
  have h2:bitN m=bitN M+s:=by rw[←hm,bitN_shift h0]
  rw[h2]at h1
  exact Nat.lt_of_lt_of_le h1 (Nat.le_trans (Nat.pow_le_pow_right (by decide) hbits) (by decide))
 rw[hm]at hb
 have SH:=Lib.hid (fun w v (h:RdN w v (digs BB M))=>shl_n (h.num sM') hm hs1)
 have SM:=Lib.hid (fun w v (h:RdN w v (digs BB m))=>nsmall_n h (Nat.lt_trans hm53 (by decide)))
 clear hm hs hbits hs1 htop hno sM sM' hKt
 have ha:=and_frac m (by omega)
 have ho:=or_field (f:=m%4503599627370496) (k:=K) (Nat.mod_lt _ (by decide)) (by omega)
 by_cases hbig:4503599627370496≤m
 ·rw[if_pos hbig]at hb
  have d3:decide (4503599627370496≤m)=true:=decide_eq_true hbig
  have d4:decide (4503599627370496≤(m:Int))=true:=decide_eq_true (by omega)
  obtain⟨B,hB⟩:∃B,m%4503599627370496+K*4503599627370496=B:=⟨_,rfl⟩
  have hB63:B<9223372036854775808:=by have:=Nat.mod_lt m (show 4503599627370496>0 by decide);omega
  rw[hB]at hb ho
  have hot:=or_top hB63
  have e1:((m%4503599627370496:Nat):Int)=(m:Int)%4503599627370496:=by omega
  have e2:((K*4503599627370496:Nat):Int)=(K:Int)*4503599627370496:=by omega
  have e3:IntKind.u64.wrap ((K:Int)*4503599627370496)=(K:Int)*4503599627370496:=by rw[IntKind.wrap_u64];omega
  rw[e1,e2,←e3]at ho
  clear e1 e2 e3
  clear hB hB63 hbig hm53 hK1 hK2
  have wt:=wwI bt
  have wt':=iwI bt
  have wK:=wwN bK
  have wK':=iwN bK
  have wKu:=uwN bK
  have ws:=wwN bs
  have ws':=iwN bs
  clear bt bK bs
  cases n
  ·simp only[signedB,Bool.false_eq_true,if_false]at hb
   subst hb
   go_enter Tryz.func85,Tryz.ntmps85
   go_upto_region 7 with
    (first
      |(go_at_call 69;(with_reducible refine(TP.out _ _ (hv.below (below_alloc _ _)) (hT.below (below_alloc _ _))).mono ?_);rintro e w1 ⟨rfl,hb1⟩;have B1:=(below_alloc _ _).trans (hb1.mono (below_alloc _ _).size);have m1:=((hv.below (below_alloc _ _))).below hb1;have T1:=((hT.below (below_alloc _ _))).below hb1;have P1:=((blk_new)).below hb1;obtain⟨cP0_1,cP1_1,cP2_1,fP0_1,fP1_1,fP2_1,sP_1⟩:=P1.open3)
      |(go_at_call 74;(with_reducible refine(BA.out _ _ m1 T1).mono ?_);rintro e w2 ⟨vx2,rfl,x2,hb2⟩;have B2:=B1.trans (hb2.mono B1.size);have m2:=m1.below hb2;have T2:=T1.below hb2;have P2:=P1.below hb2;clear m1 T1 P1;clear cP0_1 cP1_1 cP2_1 fP0_1 fP1_1 fP2_1 sP_1;obtain⟨cP0_2,cP1_2,cP2_2,fP0_2,fP1_2,fP2_2,sP_2⟩:=P2.open3;obtain⟨ax2,kx2,rfl,-⟩:=x2.view;try simp only[List.length_nil]at x2)
      |fail)
   have P5:=P2.set3 (.bool false) (.slice ax2 (digs BB M).length kx2) (.int .i64 E)
   have x5:=x2.set3 P2 dcells (.bool false) (.slice ax2 (digs BB M).length kx2) (.int .i64 E)
   have B5:=below_set3b (b:=w.heap.size) B2 (Nat.le_refl _) (.bool false) (.slice ax2 (digs BB M).length kx2) (.int .i64 E)
   clear cP0_2 cP1_2 cP2_2 fP0_2 fP1_2 fP2_2 sP_2 P2 x2 B2 T2 m2 hb2
   generalize ((w2.setCell ⟨w.heap.size,0,none⟩ (.bool false)).setCell ⟨w.heap.size,1,none⟩ (.slice ax2 (digs BB M).length kx2)).setCell ⟨w.heap.size,2,none⟩ (.int .i64 E)=w5 at*
   obtain⟨cP0_5,cP1_5,cP2_5,fP0_5,fP1_5,fP2_5,sP_5⟩:=P5.open3
   go_wp2_with
    (first
      |(go_at_call 100;(with_reducible refine(SH.out _ _ x5).mono ?_);rintro e w6 ⟨vy6,rfl,y6,hb6⟩;have B6:=B5.trans (hb6.mono B5.size);have x6:=x5.below hb6;have P6:=P5.below hb6;clear x5 P5;obtain⟨cP0_6,cP1_6,cP2_6,fP0_6,fP1_6,fP2_6,sP_6⟩:=P6.open3;obtain⟨ay6,ky6,rfl,-⟩:=y6.view;try simp only[List.length_nil]at y6)
      |(go_at_call 95;(with_reducible refine(SM.out _ _ y6).mono ?_);rintro e w7 ⟨rfl,hb7⟩;have B7:=B6.trans (hb7.mono B6.size);have x7:=x6.below hb7;have P7:=P6.below hb7;have y7:=y6.below hb7;clear x6 P6 y6;clear cP0_6 cP1_6 cP2_6 fP0_6 fP1_6 fP2_6 sP_6;obtain⟨cP0_7,cP1_7,cP2_7,fP0_7,fP1_7,fP2_7,sP_7⟩:=P7.open3)
      |fail)
   all_goals
    go_ret2
    exact⟨rfl,by assumption⟩
  ·simp only[signedB,if_true]at hb
   subst hb
   go_enter Tryz.func85,Tryz.ntmps85
   go_upto_region 7 with
    (first
      |(go_at_call 69;(with_reducible refine(TP.out _ _ (hv.below (below_alloc _ _)) (hT.below (below_alloc _ _))).mono ?_);rintro e w1 ⟨rfl,hb1⟩;have B1:=(below_alloc _ _).trans (hb1.mono (below_alloc _ _).size);have m1:=((hv.below (below_alloc _ _))).below hb1;have T1:=((hT.below (below_alloc _ _))).below hb1;have P1:=((blk_new)).below hb1;obtain⟨cP0_1,cP1_1,cP2_1,fP0_1,fP1_1,fP2_1,sP_1⟩:=P1.open3)
      |(go_at_call 74;(with_reducible refine(BA.out _ _ m1 T1).mono ?_);rintro e w2 ⟨vx2,rfl,x2,hb2⟩;have B2:=B1.trans (hb2.mono B1.size);have m2:=m1.below hb2;have T2:=T1.below hb2;have P2:=P1.below hb2;clear m1 T1 P1;clear cP0_1 cP1_1 cP2_1 fP0_1 fP1_1 fP2_1 sP_1;obtain⟨cP0_2,cP1_2,cP2_2,fP0_2,fP1_2,fP2_2,sP_2⟩:=P2.open3;obtain⟨ax2,kx2,rfl,-⟩:=x2.view;try simp only[List.length_nil]at x2)
      |fail)
   have P5:=P2.set3 (.bool true) (.slice ax2 (digs BB M).length kx2) (.int .i64 E)
   have x5:=x2.set3 P2 dcells (.bool true) (.slice ax2 (digs BB M).length kx2) (.int .i64 E)
   have B5:=below_set3b (b:=w.heap.size) B2 (Nat.le_refl _) (.bool true) (.slice ax2 (digs BB M).length kx2) (.int .i64 E)
   clear cP0_2 cP1_2 cP2_2 fP0_2 fP1_2 fP2_2 sP_2 P2 x2 B2 T2 m2 hb2
   generalize ((w2.setCell ⟨w.heap.size,0,none⟩ (.bool true)).setCell ⟨w.heap.size,1,none⟩ (.slice ax2 (digs BB M).length kx2)).setCell ⟨w.heap.size,2,none⟩ (.int .i64 E)=w5 at*
   obtain⟨cP0_5,cP1_5,cP2_5,fP0_5,fP1_5,fP2_5,sP_5⟩:=P5.open3
   go_wp2_with
    (first
      |(go_at_call 100;(with_reducible refine(SH.out _ _ x5).mono ?_);rintro e w6 ⟨vy6,rfl,y6,hb6⟩;have B6:=B5.trans (hb6.mono B5.size);have x6:=x5.below hb6;have P6:=P5.below hb6;clear x5 P5;obtain⟨cP0_6,cP1_6,cP2_6,fP0_6,fP1_6,fP2_6,sP_6⟩:=P6.open3;obtain⟨ay6,ky6,rfl,-⟩:=y6.view;try simp only[List.length_nil]at y6)
      |(go_at_call 95;(with_reducible refine(SM.out _ _ y6).mono ?_);rintro e w7 ⟨rfl,hb7⟩;have B7:=B6.trans (hb7.mono B6.size);have x7:=x6.below hb7;have P7:=P6.below hb7;have y7:=y6.below hb7;clear x6 P6 y6;clear cP0_6 cP1_6 cP2_6 fP0_6 fP1_6 fP2_6 sP_6;obtain⟨cP0_7,cP1_7,cP2_7,fP0_7,fP1_7,fP2_7,sP_7⟩:=P7.open3)
      |fail)
   all_goals
    go_ret2
    exact⟨rfl,by assumption⟩
 ·rw[if_neg hbig]at hb
  have d3:decide (4503599627370496≤m)=false:=decide_eq_false hbig
  have d4:decide (4503599627370496≤(m:Int))=false:=decide_eq_false (by omega)
  have hot:=or_top (b:=m) (by omega)
  clear hbig hm53 hK1 hK2 ha ho
  have wt:=wwI bt
  have wt':=iwI bt
  have wK:=wwN bK
  have wK':=iwN bK
  have wKu:=uwN bK
  have ws:=wwN bs
  have ws':=iwN bs
  clear bt bK bs
  cases n
  ·simp only[signedB,Bool.false_eq_true,if_false]at hb
   subst hb
   go_enter Tryz.func85,Tryz.ntmps85
   go_upto_region 7 with
    (first
      |(go_at_call 69;(with_reducible refine(TP.out _ _ (hv.below (below_alloc _ _)) (hT.below (below_alloc _ _))).mono ?_);rintro e w1 ⟨rfl,hb1⟩;have B1:=(below_alloc _ _).trans (hb1.mono (below_alloc _ _).size);have m1:=((hv.below (below_alloc _ _))).below hb1;have T1:=((hT.below (below_alloc _ _))).below hb1;have P1:=((blk_new)).below hb1;obtain⟨cP0_1,cP1_1,cP2_1,fP0_1,fP1_1,fP2_1,sP_1⟩:=P1.open3)
      |(go_at_call 74;(with_reducible refine(BA.out _ _ m1 T1).mono ?_);rintro e w2 ⟨vx2,rfl,x2,hb2⟩;have B2:=B1.trans (hb2.mono B1.size);have m2:=m1.below hb2;have T2:=T1.below hb2;have P2:=P1.below hb2;clear m1 T1 P1;clear cP0_1 cP1_1 cP2_1 fP0_1 fP1_1 fP2_1 sP_1;obtain⟨cP0_2,cP1_2,cP2_2,fP0_2,fP1_2,fP2_2,sP_2⟩:=P2.open3;obtain⟨ax2,kx2,rfl,-⟩:=x2.view;try simp only[List.length_nil]at x2)
      |fail)
   have P5:=P2.set3 (.bool false) (.slice ax2 (digs BB M).length kx2) (.int .i64 E)
   have x5:=x2.set3 P2 dcells (.bool false) (.slice ax2 (digs BB M).length kx2) (.int .i64 E)
   have B5:=below_set3b (b:=w.heap.size) B2 (Nat.le_refl _) (.bool false) (.slice ax2 (digs BB M).length kx2) (.int .i64 E)
   clear cP0_2 cP1_2 cP2_2 fP0_2 fP1_2 fP2_2 sP_2 P2 x2 B2 T2 m2 hb2
   generalize ((w2.setCell ⟨w.heap.size,0,none⟩ (.bool false)).setCell ⟨w.heap.size,1,none⟩ (.slice ax2 (digs BB M).length kx2)).setCell ⟨w.heap.size,2,none⟩ (.int .i64 E)=w5 at*
   obtain⟨cP0_5,cP1_5,cP2_5,fP0_5,fP1_5,fP2_5,sP_5⟩:=P5.open3
   go_wp2_with
    (first
      |(go_at_call 100;(with_reducible refine(SH.out _ _ x5).mono ?_);rintro e w6 ⟨vy6,rfl,y6,hb6⟩;have B6:=B5.trans (hb6.mono B5.size);have x6:=x5.below hb6;have P6:=P5.below hb6;clear x5 P5;obtain⟨cP0_6,cP1_6,cP2_6,fP0_6,fP1_6,fP2_6,sP_6⟩:=P6.open3;obtain⟨ay6,ky6,rfl,-⟩:=y6.view;try simp only[List.length_nil]at y6)
      |(go_at_call 95;(with_reducible refine(SM.out _ _ y6).mono ?_);rintro e w7 ⟨rfl,hb7⟩;have B7:=B6.trans (hb7.mono B6.size);have x7:=x6.below hb7;have P7:=P6.below hb7;have y7:=y6.below hb7;clear x6 P6 y6;clear cP0_6 cP1_6 cP2_6 fP0_6 fP1_6 fP2_6 sP_6;obtain⟨cP0_7,cP1_7,cP2_7,fP0_7,fP1_7,fP2_7,sP_7⟩:=P7.open3)
      |fail)
   all_goals
    go_ret2
    exact⟨rfl,by assumption⟩
  ·simp only[signedB,if_true]at hb
   subst hb
   go_enter Tryz.func85,Tryz.ntmps85
   go_upto_region 7 with
    (first
      |(go_at_call 69;(with_reducible refine(TP.out _ _ (hv.below (below_alloc _ _)) (hT.below (below_alloc _ _))).mono ?_);rintro e w1 ⟨rfl,hb1⟩;have B1:=(below_alloc _ _).trans (hb1.mono (below_alloc _ _).size);have m1:=((hv.below (below_alloc _ _))).below hb1;have T1:=((hT.below (below_alloc _ _))).below hb1;have P1:=((blk_new)).below hb1;obtain⟨cP0_1,cP1_1,cP2_1,fP0_1,fP1_1,fP2_1,sP_1⟩:=P1.open3)
      |(go_at_call 74;(with_reducible refine(BA.out _ _ m1 T1).mono ?_);rintro e w2 ⟨vx2,rfl,x2,hb2⟩;have B2:=B1.trans (hb2.mono B1.size);have m2:=m1.below hb2;have T2:=T1.below hb2;have P2:=P1.below hb2;clear m1 T1 P1;clear cP0_1 cP1_1 cP2_1 fP0_1 fP1_1 fP2_1 sP_1;obtain⟨cP0_2,cP1_2,cP2_2,fP0_2,fP1_2,fP2_2,sP_2⟩:=P2.open3;obtain⟨ax2,kx2,rfl,-⟩:=x2.view;try simp only[List.length_nil]at x2)
      |fail)
   have P5:=P2.set3 (.bool true) (.slice ax2 (digs BB M).length kx2) (.int .i64 E)
   have x5:=x2.set3 P2 dcells (.bool true) (.slice ax2 (digs BB M).length kx2) (.int .i64 E)
   have B5:=below_set3b (b:=w.heap.size) B2 (Nat.le_refl _) (.bool true) (.slice ax2 (digs BB M).length kx2) (.int .i64 E)
   clear cP0_2 cP1_2 cP2_2 fP0_2 fP1_2 fP2_2 sP_2 P2 x2 B2 T2 m2 hb2
   generalize ((w2.setCell ⟨w.heap.size,0,none⟩ (.bool true)).setCell ⟨w.heap.size,1,none⟩ (.slice ax2 (digs BB M).length kx2)).setCell ⟨w.heap.size,2,none⟩ (.int .i64 E)=w5 at*
   obtain⟨cP0_5,cP1_5,cP2_5,fP0_5,fP1_5,fP2_5,sP_5⟩:=P5.open3
   go_wp2_with
    (first
      |(go_at_call 100;(with_reducible refine(SH.out _ _ x5).mono ?_);rintro e w6 ⟨vy6,rfl,y6,hb6⟩;have B6:=B5.trans (hb6.mono B5.size);have x6:=x5.below hb6;have P6:=P5.below hb6;clear x5 P5;obtain⟨cP0_6,cP1_6,cP2_6,fP0_6,fP1_6,fP2_6,sP_6⟩:=P6.open3;obtain⟨ay6,ky6,rfl,-⟩:=y6.view;try simp only[List.length_nil]at y6)
      |(go_at_call 95;(with_reducible refine(SM.out _ _ y6).mono ?_);rintro e w7 ⟨rfl,hb7⟩;have B7:=B6.trans (hb7.mono B6.size);have x7:=x6.below hb7;have P7:=P6.below hb7;have y7:=y6.below hb7;clear x6 P6 y6;clear cP0_6 cP1_6 cP2_6 fP0_6 fP1_6 fP2_6 sP_6;obtain⟨cP0_7,cP1_7,cP2_7,fP0_7,fP1_7,fP2_7,sP_7⟩:=P7.open3)
      |fail)
   all_goals
    go_ret2
    exact⟨rfl,by assumption⟩
end Go.Proofs.YtffaefjkpipjnaaGreatDoor
namespace Go.Proofs.YtffaefjkpipjnaaGreatDoor
set_option maxRecDepth 100000
open Go.RowKit Go.ChangeShapes Go.WideShapes
set_option maxHeartbeats 2000000 in
theorem right_more {w:World}{v:Value}{neg n':Bool}{M M':Nat}{E E' dir:Int}(h:Num w v M) (hT:Tab w) (h1: -9223372036854775808≤E) (h2:E≤9223372036854775807) (e:bareD ⟨neg,M,E⟩=⟨n',M',E'⟩) (hf:fitsE E'=true) (d0:0≤dir) (d3:dir≤3) (h0:M'≠0):
 Calls Tryz.prog 83 #[.agg #[.bool neg,v,.int .i64 E],.bool true,.int .i64 dir] w (fun e w'=>∃v,e= .returned (.tuple #[.agg #[.bool n',v,.int .i64 E'],.bool true])∧RdN w' v (digs BB M')∧Below w.heap.size w w'):=by
 obtain⟨a,n,k,rfl⟩:=h.slice
 have BA:=Lib.hid (fun w v (h:Num w v M) (hT:Tab w)=>Bare_ok h hT h1 h2 e hf)
 have dd0:decide (0≤dir)=true:=decide_eq_true d0
 have dd3:decide (dir≤3)=true:=decide_eq_true d3
 have hsn:digs BB M'≠[]:=fun e=>h0 ((digs_nil_iff BB_two _).1 e)
 have hsi:((digs BB M').length:Int)≠0:=by have:=List.length_pos_iff.2 hsn;omega
 have hsb:(((digs BB M').length:Int)==0)=false:=beq_false_of_ne hsi
 clear e hf d0 d3 h0 hsn
 go_enter Tryz.func83,Tryz.ntmps83
 go_upto_region 2 with
  (first
    |(go_at_call 74;(with_reducible refine(BA.out _ _ (h.below below_2) (hT.below below_2)).mono ?_);rintro e w1 ⟨vx1,rfl,x1,hb1⟩;have B1:=below_2.trans (hb1.mono below_2.size);have m1:=((h.below below_2)).below hb1;have T1:=((hT.below below_2)).below hb1;have P1:=((blk_a1)).below hb1;have R1:=((blk_a2)).below hb1;obtain⟨cP0_1,cP1_1,cP2_1,fP0_1,fP1_1,fP2_1,sP_1⟩:=P1.open3;obtain⟨cR0_1,cR1_1,cR2_1,fR0_1,fR1_1,fR2_1,sR_1⟩:=R1.open3;obtain⟨ax1,kx1,rfl,-⟩:=x1.view;try simp only[List.length_nil]at x1)
    |fail)
 have P5:=P1.set3 (.bool n') (.slice ax1 (digs BB M').length kx1) (.int .i64 E')
 have R5:=R1.other3 (b':=w.heap.size) (by omega) (.bool n') (.slice ax1 (digs BB M').length kx1) (.int .i64 E')
 have x5:=x1.set3 P1 dcells (.bool n') (.slice ax1 (digs BB M').length kx1) (.int .i64 E')
 have B5:=below_set3b (b:=w.heap.size) B1 (Nat.le_refl _) (.bool n') (.slice ax1 (digs BB M').length kx1) (.int .i64 E')
 clear cP0_1 cP1_1 cP2_1 fP0_1 fP1_1 fP2_1 sP_1 cR0_1 cR1_1 cR2_1 fR0_1 fR1_1 fR2_1 sR_1 P1 R1 x1 B1 T1 m1 hb1
 generalize ((w1.setCell ⟨w.heap.size,0,none⟩ (.bool n')).setCell ⟨w.heap.size,1,none⟩ (.slice ax1 (digs BB M').length kx1)).setCell ⟨w.heap.size,2,none⟩ (.int .i64 E')=w5 at*
 have hAD:Below w5.heap.size w5 w5.drew:=below_drewN (Below.refl _ _) 1
 have P6:=P5.below hAD
 obtain⟨cP0_6,cP1_6,cP2_6,fP0_6,fP1_6,fP2_6,sP_6⟩:=P6.open3
 obtain⟨cR0_5,cR1_5,cR2_5,fR0_5,fR1_5,fR2_5,sR_5⟩:=R5.open3
 have cG:=fun x y z=>(Blk.dr (P5.other3 (b':=w.heap.size+1) (by omega) x y z)).open3
 go_region_held3 (fun w'=>w'.cell? ⟨w.heap.size,0,none⟩=some (.bool n')∧w'.cell? ⟨w.heap.size,1,none⟩=some (.slice ax1 (digs BB M').length kx1)∧w'.cell? ⟨w.heap.size,2,none⟩=some (.int .i64 E')) (first|with_reducible exact⟨cP0_6,cP1_6,cP2_6⟩|with_reducible exact⟨(cG _ _ _).1,(cG _ _ _).2.1,(cG _ _ _).2.2.1⟩) (first|fail)
 all_goals
  go_wp2_with fail
  obtain⟨q0,q1,q2,-⟩:=(Blk.dr (R5.set3 (.bool n') (.slice ax1 (digs BB M').length kx1) (.int .i64 E'))).open3
  refine bodyPost_ret (v:= .tuple #[.agg #[.bool n',.slice ax1 (digs BB M').length kx1,.int .i64 E'],.bool true]) ?_ rfl ?_
  ·simp[results,Tryz.results83,go_sem,q0,q1,q2]
  ·exact⟨_,rfl,(x5.set3 R5 dcells _ _ _).below (below_drewN (Below.refl _ _) 1),below_drewN (below_set3b B5 (by omega) _ _ _) 1⟩
end Go.Proofs.YtffaefjkpipjnaaGreatDoor
namespace Go.Proofs.YtffaefjkpipjnaaGreatDoor
set_option maxRecDepth 100000
open Go.RowKit Go.ChangeShapes Go.WideShapes
theorem or_top2 {b:Nat}(hb:b<9223372036854775808):bits .or .u64 ((b+9223372036854775808:Nat):Int) 9223372036854775808=((b+9223372036854775808:Nat):Int):=by
 have:=(bits_nat .u64 64 (by decide) (fun n h0 h1=>by rw[IntKind.wrap_u64];omega) (b+9223372036854775808) 9223372036854775808 (by omega) (by decide)).2
 rw[show((9223372036854775808:Nat):Int)=9223372036854775808 from rfl]at this
 rw[this]
 have h:=Nat.two_pow_add_eq_or_of_lt (i:=63) (b:=b) (by omega) 1
 rw[show 2^63*1=9223372036854775808 by decide]at h
 rw[Nat.add_comm b,h,Nat.or_comm,←Nat.or_assoc,Nat.or_self]
theorem signed_again {w:World}{b:Nat}{neg:Bool}(hb:b<9223372036854775808):Calls Tryz.prog 82 #[L64 (signedB b neg),.bool neg] w (fun e w'=>e= .returned (L64 (signedB b neg))∧w'=w):=by
 have ho:=or_top2 hb
 unfold signedB
 cases neg
 ·exact signed_n (neg:=false) hb
 ·rw[if_pos rfl]
  obtain⟨B,hB⟩:∃B,b+9223372036854775808=B:=⟨_,rfl⟩
  rw[hB]at ho⊢
  clear hB
  go_enter Tryz.func82,Tryz.ntmps82
  go_wp2
  all_goals
   go_ret
   exact⟨rfl,rfl⟩
set_option maxHeartbeats 2000000 in
theorem To_more {w:World}{v:Value}{neg n1:Bool}{M M1 M2 q c:Nat}{E E1 E2 dir top u:Int}(h:Num w v M) (hT:Tab w) (h1: -9223372036854775808≤E) (h2:E≤9223372036854775807) (e:bareD ⟨neg,M,E⟩=⟨n1,M1,E1⟩) (hf:fitsE E1=true) (d0:0≤dir) (d3:dir≤3)
 (o1:M1%2=1) (sM:bitN M1≤4096) (ht:topD ⟨n1,M1,E1⟩=top) (ht1: -1022≤top) (ht2:top≤1023) (hu:max (top-52) (-1074)=u) (hw:wholeP n1 M1 E1 true dir u=(q,true)) (sq:bitN q≤60000) (hm:makeQ ⟨n1,q,u⟩=(n1,M2,E2,0)) (o2:M2%2=1) (sM2:bitN M2≤60000)
 (rE: -1074≤E2∧E2≤1023) (ht3:topD ⟨n1,M2,E2⟩≤1023) (hE2:max (topD ⟨n1,M2,E2⟩-52) (-1074)≤E2) (hc:c<9223372036854775808) (hb:exactB n1 M2 E2=(signedB c n1,true)):
 Calls Tryz.prog 55 #[.agg #[.bool neg,v,.int .i64 E],.bool true,.int .i64 dir] w (fun e w'=>e= .returned (.tuple #[L64 (signedB c n1),.int .u8 1,.int .i64 0])∧Below w.heap.size w w'):=by
 have h0:M1≠0:=by omega
 have rF: -1073741824≤E1∧E1≤1073741824:=by unfold fitsE at hf;simp at hf;exact hf
 have ht':=ht
 unfold topD at ht'
 simp only at ht'
 have bE1:E1.natAbs≤4294967296:=by omega
 have bu:u.natAbs≤4294967296:=by omega
 have bs:bitN M1+(E1-u).toNat≤65536:=by omega
 have ed1:bareD ⟨n1,M1,E1⟩=⟨n1,M1,E1⟩:=bareD_odd' o1 (by omega) (by omega)
 have bt:(top-52).natAbs≤1099511627776:=by omega
 obtain⟨a,n,k,rfl⟩:=h.slice
 have RG:=Lib.hid (fun w v (h:Num w v M) (hT:Tab w)=>right_more h hT h1 h2 e hf d0 d3 h0)
 have TP:=Lib.hid (fun w v (h:RdN w v (digs BB M1)) (hT:Tab w)=>by
  have:=Top_n (h.num (by omega)) hT (by omega) (by omega) ed1 h0
  rw[ht]at this;exact this)
 have WH:=Lib.hid (fun w v (h:RdN w v (digs BB M1)) (hT:Tab w)=>whole_n h hT (by omega) bE1 bu bs hw)
 have MK:=Lib.hid (fun w v (h:RdN w v (digs BB q)) (hT:Tab w)=>Make_q (h.num (by omega)) hT (by omega) (by omega) hm)
 have EX:=Lib.hid (fun w v (h:RdN w v (digs BB M2)) (hT:Tab w)=>exact_ok h hT o2 sM2 (by omega) (by omega) rfl ht3 rfl hE2 hb)
 have SG:=Lib.hid (fun w=>signed_again (w:=w) (neg:=n1) hc)
 obtain⟨b,hbb⟩:∃b,signedB c n1=b:=⟨_,rfl⟩
 rw[hbb]at EX SG⊢
 have x1:decide (1023<top)=false:=decide_eq_false (by omega)
 have x2:decide (top< -1075)=false:=decide_eq_false (by omega)
 have x3:decide (top< -1022)=false:=decide_eq_false (by omega)
 clear e hf d0 d3 o1 sM ht ht' ht1 ht2 hw sq hm o2 sM2 rE ht3 hE2 hc hb hbb rF bE1 bu bs ed1 h0
 have wt:=wwI bt
 have wt':=iwI bt
 clear bt
 go_enter Tryz.func55,Tryz.ntmps55
 go_upto_region 2 with
  (first
    |(go_at_call 83;(with_reducible refine(RG.out _ _ (h.below (below_alloc _ _)) (hT.below (below_alloc _ _))).mono ?_);rintro e w1 ⟨vx1,rfl,x1,hb1⟩;have B1:=(below_alloc _ _).trans (hb1.mono (below_alloc _ _).size);have m1:=((h.below (below_alloc _ _))).below hb1;have T1:=((hT.below (below_alloc _ _))).below hb1;have P1:=((blk_new)).below hb1;obtain⟨cP0_1,cP1_1,cP2_1,fP0_1,fP1_1,fP2_1,sP_1⟩:=P1.open3;obtain⟨ax1,kx1,rfl,-⟩:=x1.view;try simp only[List.length_nil]at x1)
    |fail)
 have P5:=P1.set3 (.bool n1) (.slice ax1 (digs BB M1).length kx1) (.int .i64 E1)
 have x5:=x1.set3 P1 dcells (.bool n1) (.slice ax1 (digs BB M1).length kx1) (.int .i64 E1)
 have B5:=below_set3b (b:=w.heap.size) B1 (Nat.le_refl _) (.bool n1) (.slice ax1 (digs BB M1).length kx1) (.int .i64 E1)
 clear cP0_1 cP1_1 cP2_1 fP0_1 fP1_1 fP2_1 sP_1 P1 x1 B1 T1 m1 hb1
 generalize ((w1.setCell ⟨w.heap.size,0,none⟩ (.bool n1)).setCell ⟨w.heap.size,1,none⟩ (.slice ax1 (digs BB M1).length kx1)).setCell ⟨w.heap.size,2,none⟩ (.int .i64 E1)=w5 at*
 have T5:=hT.below B5
 obtain⟨cP0_5,cP1_5,cP2_5,fP0_5,fP1_5,fP2_5,sP_5⟩:=P5.open3
 go_wp2_with
  (first
    |(go_at_call 69;(with_reducible refine(TP.out _ _ x5 T5).mono ?_);rintro e w6 ⟨rfl,hb6⟩;have B6:=B5.trans (hb6.mono B5.size);have x6:=x5.below hb6;have T6:=T5.below hb6;have P6:=P5.below hb6;clear x5 T5 P5;obtain⟨cP0_6,cP1_6,cP2_6,fP0_6,fP1_6,fP2_6,sP_6⟩:=P6.open3)
    |(go_at_call 84;(with_reducible refine(WH.out _ _ x6 T6).mono ?_);rintro e w7 ⟨vz7,rfl,z7,hb7⟩;have B7:=B6.trans (hb7.mono B6.size);have x7:=x6.below hb7;have T7:=T6.below hb7;have P7:=P6.below hb7;clear x6 T6 P6;clear cP0_6 cP1_6 cP2_6 fP0_6 fP1_6 fP2_6 sP_6;obtain⟨cP0_7,cP1_7,cP2_7,fP0_7,fP1_7,fP2_7,sP_7⟩:=P7.open3)
    |(go_at_call 47;(with_reducible refine(MK.out _ _ z7 T7).mono ?_);rintro e w8 ⟨vy8,rfl,y8,hb8⟩;have B8:=B7.trans (hb8.mono B7.size);have x8:=x7.below hb8;have T8:=T7.below hb8;have P8:=P7.below hb8;have z8:=z7.below hb8;clear x7 T7 P7 z7;clear cP0_7 cP1_7 cP2_7 fP0_7 fP1_7 fP2_7 sP_7;obtain⟨cP0_8,cP1_8,cP2_8,fP0_8,fP1_8,fP2_8,sP_8⟩:=P8.open3;obtain⟨ay8,ky8,rfl,-⟩:=y8.view;try simp only[List.length_nil]at y8)
    |(go_at_call 85;(with_reducible refine(EX.out _ _ (y8.below (below_alloc _ _)) (T8.below (below_alloc _ _))).mono ?_);rintro e w9 ⟨rfl,hb9⟩;have hb9':=(below_a hb9);have B9:=B8.trans (hb9'.mono B8.size);have x9:=x8.below hb9';have T9:=T8.below hb9';have P9:=P8.below hb9';have z9:=z8.below hb9';have y9:=y8.below hb9';clear x8 T8 P8 z8 y8;clear cP0_8 cP1_8 cP2_8 fP0_8 fP1_8 fP2_8 sP_8;obtain⟨cP0_9,cP1_9,cP2_9,fP0_9,fP1_9,fP2_9,sP_9⟩:=P9.open3)
    |(go_at_call 82;(with_reducible refine(SG.out _).mono ?_);rintro e w10 ⟨rfl,rfl⟩)
    |fail)
 all_goals
  go_ret3
  exact⟨rfl,by assumption⟩
end Go.Proofs.YtffaefjkpipjnaaGreatDoor
