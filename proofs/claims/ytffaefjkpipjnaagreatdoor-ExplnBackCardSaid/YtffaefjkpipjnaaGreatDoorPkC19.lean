/- Sums of dyads as rational numbers. Conditions: none. -/
import Derived.Test.YtffaefjkpipjnaaGreatDoorPkC01
import Derived.Test.YtffaefjkpipjnaaGreatDoorPkC17
namespace Go.Proofs.YtffaefjkpipjnaaGreatDoor
set_option maxRecDepth 100000
set_option linter.unusedVariables false
def sg (n:Bool) (x:Nat):Int:=if n then-(x:Int)else(x:Int)
theorem qv_sg (n:Bool) (m:Nat) (e:Int):qv ⟨n,m,e⟩=((sg n m:Int):Rat)*pw e:=by
 unfold qv sg
 cases n
 ·rfl
 ·simp only[if_true]
  rw[Rat.intCast_neg,Rat.neg_mul]
  rfl
theorem sv_sg (d:Dn) (z:Int):sv d z=sg d.neg (d.m*2^(d.e-z).toNat):=rfl
theorem addR_sg {n1 n2 n3:Bool}{X Y M:Nat}(h:addR n1 n2 X Y=(n3,M)):sg n3 M=sg n1 X+sg n2 Y:=by
 unfold addR at h
 unfold sg
 split at h
 ·injection h with h1 h2
  subst h1;subst h2
  rename_i e
  subst e
  cases n1<;>simp<;>omega
 ·split at h
  ·injection h with h1 h2
   subst h1;subst h2
   cases n1<;>cases n2<;>simp_all<;>omega
  ·injection h with h1 h2
   subst h1;subst h2
   cases n1<;>cases n2<;>simp_all<;>omega
theorem qv_sum (a b:Dn):qv (sumD a b)=qv a+qv b:=by
 have h:=addR_sg (n1:=a.neg) (n2:=b.neg) (X:=a.m*2^(a.e-min a.e b.e).toNat) (Y:=b.m*2^(b.e-min a.e b.e).toNat) (n3:=_) (M:=_) rfl
 rw[qv_sv (d:=a) (z:=min a.e b.e) (by omega),qv_sv (d:=b) (z:=min a.e b.e) (by omega),sv_sg,sv_sg,←Rat.add_mul,←Rat.intCast_add,←h,←qv_sg]
 rfl
def Mid (k:Int) (d:Dn):Prop:= -k≤d.e∧d.e≤k∧(bitN d.m:Int)+d.e≤k
theorem Mid.bits {k:Int}{d:Dn}(h:Mid k d):(bitN d.m:Int)≤k+k:=by obtain⟨h1,h2,h3⟩:=h;omega
theorem Mid.mono {k j:Int}{d:Dn}(h:Mid k d) (hj:k≤j):Mid j d:=by obtain⟨h1,h2,h3⟩:=h;exact⟨by omega,by omega,by omega⟩
theorem bitN_low2 {m:Nat}(h:m≠0):bitN (m/2^low2 m)+low2 m=bitN m:=by
 obtain⟨k,hk⟩:=low2_eq h
 have h1:=odd_eq hk
 have h2:m=m/2^low2 m*2^low2 m:=by rw[h1,Nat.mul_comm];exact hk
 have h3:=bitN_shift (m:=m/2^low2 m) (by rw[h1];omega) (low2 m)
 rw[←h2]at h3
 exact h3.symm
theorem Mid.bare {k:Int}{d:Dn}(h:Mid k d) (hk:k≤1000000000) (hk0:0≤k):Mid k (bareD d)∧(d.m≠0→d.e≤(bareD d).e)∧(d.m=0→(bareD d).e=0)∧fitsE (bareD d).e=true∧qv (bareD d)=qv d:=by
 obtain⟨h1,h2,h3⟩:=h
 refine⟨?_,?_,?_,?_,qv_bare (by omega) (by omega)⟩
 ·by_cases h0:d.m=0
  ·rw[bareD_zero h0]
   exact⟨by show-k≤0;omega,hk0,by show(bitN 0:Int)+0≤k;rw[bitN_zero];omega⟩
  ·rw[bareD_pos h0]
   have hb:=bitN_low2 h0
   have hc:cutE d.e=d.e:=by unfold cutE;omega
   have hl:=low2_lt h0
   refine⟨?_,?_,?_⟩
   ·show-k≤cutE d.e+(low2 d.m:Nat);omega
   ·show cutE d.e+(low2 d.m:Nat)≤k;omega
   ·show(bitN (d.m/2^low2 d.m):Int)+(cutE d.e+(low2 d.m:Nat))≤k;omega
 ·intro h0
  rw[bareD_pos h0]
  have hc:cutE d.e=d.e:=by unfold cutE;omega
  show d.e≤cutE d.e+(low2 d.m:Nat)
  omega
 ·intro h0;rw[bareD_zero h0]
 ·by_cases h0:d.m=0
  ·rw[bareD_zero h0];rfl
  ·rw[bareD_pos h0]
   have hb:=bitN_low2 h0
   have hc:cutE d.e=d.e:=by unfold cutE;omega
   have hl:=low2_lt h0
   unfold fitsE
   rw[Bool.and_eq_true]
   exact⟨decide_eq_true (by show-1073741824≤cutE d.e+(low2 d.m:Nat);omega),decide_eq_true (by show cutE d.e+(low2 d.m:Nat)≤1073741824;omega)⟩
theorem bareD_bare (d:Dn) (h1: -1000000000≤(bareD d).e) (h2:(bareD d).e≤1000000000):bareD (bareD d)=bareD d:=by
 by_cases h0:d.m=0
 ·rw[bareD_zero h0];rfl
 ·obtain⟨m,hm⟩:=low2_eq h0
  have ho:(bareD d).m%2=1:=by
   rw[bareD_pos h0]
   show d.m/2^low2 d.m%2=1
   rw[odd_eq hm];omega
  generalize bareD d=b at*
  rw[bareD_pos (by omega),low2_odd ho,Nat.pow_zero,Nat.div_one,show cutE b.e=b.e by unfold cutE;omega]
  simp
theorem Mid.sum {k:Int}{a b:Dn}(ha:Mid k a) (hb:Mid k b):Mid (k+1) (sumD a b):=by
 obtain⟨a1,a2,a3⟩:=ha
 obtain⟨b1,b2,b3⟩:=hb
 refine⟨?_,?_,?_⟩
 ·show-(k+1)≤min a.e b.e;omega
 ·show min a.e b.e≤k+1;omega
 ·show(bitN (addR a.neg b.neg (a.m*2^(a.e-min a.e b.e).toNat) (b.m*2^(b.e-min a.e b.e).toNat)).2:Int)+min a.e b.e≤k+1
  have hX:bitN (a.m*2^(a.e-min a.e b.e).toNat)≤(k-min a.e b.e).toNat:=by
   refine Nat.le_trans (bitN_le.2 (by rw[Nat.pow_add];exact Nat.mul_lt_mul_of_pos_right (bitN_lt a.m) (Nat.two_pow_pos _))) (show bitN a.m+(a.e-min a.e b.e).toNat≤_ by omega)
  have hY:bitN (b.m*2^(b.e-min a.e b.e).toNat)≤(k-min a.e b.e).toNat:=by
   refine Nat.le_trans (bitN_le.2 (by rw[Nat.pow_add];exact Nat.mul_lt_mul_of_pos_right (bitN_lt b.m) (Nat.two_pow_pos _))) (show bitN b.m+(b.e-min a.e b.e).toNat≤_ by omega)
  generalize a.m*2^(a.e-min a.e b.e).toNat=X at*
  generalize b.m*2^(b.e-min a.e b.e).toNat=Y at*
  have hs:bitN (addR a.neg b.neg X Y).2≤(k-min a.e b.e).toNat+1:=by
   have hX2:=bitN_le.1 hX
   have hY2:=bitN_le.1 hY
   refine bitN_le.2 ?_
   rw[Nat.pow_succ]
   unfold addR
   split
   ·show X+Y<_;omega
   ·split
    ·show X-Y<_;omega
    ·show Y-X<_;omega
  omega
theorem addQ_val {k:Int}{a b:Dn}(ha:Mid k a) (hb:Mid k b) (hk:k≤30000) (hk0:0≤k):
 ∃d:Dn,addQ a b=(d.neg,d.m,d.e,0)∧qv d=qv a+qv b∧Mid (k+1) d∧bareD d=d∧(∀z:Int,z≤0→(a.m≠0→z≤a.e)→(b.m≠0→z≤b.e)→z≤d.e):=by
 obtain⟨A1,A2,A3,A4,A5⟩:=ha.bare (by omega) hk0
 obtain⟨B1,B2,B3,B4,B5⟩:=hb.bare (by omega) hk0
 unfold addQ
 rw[if_neg (by rw[A4];decide),if_neg (by rw[B4];decide)]
 have bb:∀d:Dn,Mid (k+1) (bareD d)→bareD (bareD d)=bareD d:=fun d h=>bareD_bare d (by have:=h.1;omega) (by have:=h.2.1;omega)
 by_cases ha0:(bareD a).m=0
 ·rw[if_pos ha0]
  have hz:qv a=0:=by rw[←A5];exact qv_zero ha0
  refine⟨bareD b,rfl,by rw[B5,hz,Rat.zero_add],B1.mono (by omega),bb _ (B1.mono (by omega)),fun z z0 za zb=>?_⟩
  by_cases h0:b.m=0
  ·rw[B3 h0];exact z0
  ·have:=B2 h0;have:=zb h0;omega
 ·rw[if_neg ha0]
  have am:a.m≠0:=fun e=>ha0 ((bareD_m_zero a).2 e)
  by_cases hb0:(bareD b).m=0
  ·rw[if_pos hb0]
   have hz:qv b=0:=by rw[←B5];exact qv_zero hb0
   refine⟨bareD a,rfl,by rw[A5,hz,Rat.add_zero],A1.mono (by omega),bb _ (A1.mono (by omega)),fun z z0 za zb=>?_⟩
   have:=A2 am;have:=za am;omega
  ·rw[if_neg hb0]
   have bm:b.m≠0:=fun e=>hb0 ((bareD_m_zero b).2 e)
   have hspan:¬65535<max (topD (bareD a)) (topD (bareD b))-min (bareD a).e (bareD b).e:=by
    have:=A1.1;have:=A1.2.2;have:=B1.1;have:=B1.2.2
    unfold topD;omega
   rw[if_neg hspan]
   have hs:=A1.sum B1
   obtain⟨S1,S2,S3,S4,S5⟩:=hs.bare (by omega) (by omega)
   unfold makeQ
   rw[if_pos S4]
   refine⟨bareD (sumD (bareD a) (bareD b)),rfl,by rw[S5,qv_sum,A5,B5],S1,bb _ S1,fun z z0 za zb=>?_⟩
   by_cases h0:(sumD (bareD a) (bareD b)).m=0
   ·rw[S3 h0];exact z0
   ·have h1:=S2 h0
    have h2:(sumD (bareD a) (bareD b)).e=min (bareD a).e (bareD b).e:=rfl
    have:=A2 am;have:=za am;have:=B2 bm;have:=zb bm
    omega
end Go.Proofs.YtffaefjkpipjnaaGreatDoor
namespace Go.Proofs.YtffaefjkpipjnaaGreatDoor
set_option maxRecDepth 100000
set_option linter.unusedVariables false
structure LnIn (x l h:Rat):Prop where
 lo:XL l 1 x
 hi:XL (-h) x 1
section
variable {x y l h l' h':Rat}
theorem LnIn.pos (k:LnIn x l h):0<x:=k.lo.2.1
theorem LnIn.mul (k:LnIn x l h) (k':LnIn y l' h'):LnIn (x*y) (l+l') (h+h'):=by
 have a:=k.lo.mul k'.lo
 have b:=k.hi.mul k'.hi
 have e: -h+ -h'= -(h+h'):=by grind
 rw[Rat.one_mul]at a
 rw[e,Rat.one_mul]at b
 exact⟨a,b⟩
theorem LnIn.wide (k:LnIn x l h) (hl:l'≤l) (hh:h≤h'):LnIn x l' h':=⟨k.lo.mono hl,k.hi.mono (by grind)⟩
theorem LnIn.inv (k:LnIn x l h) (hy:0<y) (hxy:x*y=1):LnIn y (-h) (-l):=by
 have hx:=k.pos
 constructor
 ·have a:=k.hi.scale hy
  rw[hxy,Rat.one_mul]at a
  exact a
 ·have a:=k.lo.scale hy
  rw[hxy,Rat.one_mul]at a
  have e: - -l=l:=by grind
  rw[e]
  exact a
theorem one_pow' (n:Nat):(1:Rat)^n=1:=by
 induction n with
 |zero=>exact Rat.pow_zero _
 |succ n ih=>rw[Rat.pow_succ,ih,Rat.mul_one]
theorem LnIn.pow (k:LnIn x l h) (n:Nat):LnIn (x^n) ((n:Rat)*l) ((n:Rat)*h):=by
 have a:=k.lo.pow n
 have b:=k.hi.pow n
 rw[one_pow']at a b
 rw[Rat.mul_neg]at b
 exact⟨a,b⟩
end
theorem pw_unit (s:Nat):((2^s:Nat):Rat)*pw (-(s:Int))=1:=by
 rw[←pw_nat,Rat.mul_comm];exact pw_neg _
theorem ln_of_bounds {A B m L H:Nat}{x r:Rat}(hB:0<B) (hx:x*(B:Rat)=(A:Rat)) (x0:0≤x) (x1:3*x≤1) (hr:r*((B:Rat)-(A:Rat))=(B:Rat)+(A:Rat))
 (K:Nat) (hL:(L:Rat)≤((2^m:Nat):Rat)*atA x K) (hH:∀K,((2^m:Nat):Rat)*atA x K≤(H:Rat)):LnIn r (2*(L:Rat)*pw (-(m:Int))) (2*(H:Rat)*pw (-(m:Int))):=by
 have hu:=pw_unit m
 have up:=pw_pos (-(m:Int))
 have bp:=rq_nat_pos hB
 generalize pw (-(m:Int))=u at*
 generalize ((2^m:Nat):Rat)=S at*
 have dp:0<(B:Rat)-(A:Rat):=by
  rw[←hx]
  have:=Rat.mul_le_mul_of_nonneg_right x1 (Rat.le_of_lt bp)
  grind
 have e1:(1-x)*(B:Rat)=(B:Rat)-(A:Rat):=by rw[←hx];grind
 have e2:(1+x)*(B:Rat)=(B:Rat)+(A:Rat):=by rw[←hx];grind
 have a1:(L:Rat)*u≤atA x K:=by
  have:=Rat.mul_le_mul_of_nonneg_right hL (Rat.le_of_lt up)
  have e:S*atA x K*u=S*u*atA x K:=by grind
  rw[e,hu,Rat.one_mul]at this
  exact this
 have a2:∀K,2*atA x K≤2*(H:Rat)*u:=fun K=>by
  have:=Rat.mul_le_mul_of_nonneg_right (hH K) (Rat.le_of_lt up)
  have e:S*atA x K*u=S*u*atA x K:=by grind
  rw[e,hu,Rat.one_mul]at this
  grind
 have rp:0<r:=by
  rcases rq_total r 0 with h|h
  ·exfalso
   have h1:=Rat.mul_le_mul_of_nonneg_right h (Rat.le_of_lt dp)
   rw[hr,Rat.zero_mul,←e2]at h1
   have h2:0<(1+x)*(B:Rat):=Rat.mul_pos (by grind) bp
   grind
  ·rcases Rat.le_iff_lt_or_eq.1 h with h|h
   ·exact h
   ·exfalso
    rw[←h,Rat.zero_mul,←e2]at hr
    have h2:0<(1+x)*(B:Rat):=Rat.mul_pos (by grind) bp
    grind
 constructor
 ·have k:=((atA_exp_le x0 x1 K).mono (p:=2*(L:Rat)*u) (by grind)).scale bp
  rw[e1,e2,←hr]at k
  have e:(B:Rat)-(A:Rat)=1*((B:Rat)-(A:Rat)):=(Rat.one_mul _).symm
  have k2:XL (2*(L:Rat)*u) (1*((B:Rat)-(A:Rat))) (r*((B:Rat)-(A:Rat))):=by rw[←e];exact k
  exact XL.unscale dp (by decide) rp k2
 ·have k:=(atA_exp_ge x0 x1 a2).scale bp
  rw[e1,e2,←hr]at k
  have e:(B:Rat)-(A:Rat)=1*((B:Rat)-(A:Rat)):=(Rat.one_mul _).symm
  have k2:XL (-(2*(H:Rat)*u)) (r*((B:Rat)-(A:Rat))) (1*((B:Rat)-(A:Rat))):=by rw[←e];exact k
  exact XL.unscale dp rp (by decide) k2
theorem ln_of_at {A B s L H:Nat}{r:Rat}(o:AtOk A B s L H) (hB:0<B) (h3:3*A≤B) (hr:r*((B:Rat)-(A:Rat))=(B:Rat)+(A:Rat)):LnIn r (2*(L:Rat)*pw (-(s:Int))) (2*(H:Rat)*pw (-(s:Int))):=by
 obtain⟨x,hx,x0,x1⟩:=at_of hB h3
 exact ln_of_bounds hB hx x0 x1 hr s (o.lo x hx x0) (o.hi x hx x0 x1)
theorem ln_of_ref {A B m:Nat}{r:Rat}(hB:0<B) (h3:3*A≤B) (hr:r*((B:Rat)-(A:Rat))=(B:Rat)+(A:Rat)):
 LnIn r (2*((refAt A B (2^m) (m/3+2):Nat):Rat)*pw (-(m:Int))) (2*((refAt A B (2^m) (m/3+2)+8:Nat):Rat)*pw (-(m:Int))):=by
 obtain⟨x,hx,x0,x1⟩:=at_of hB h3
 refine ln_of_bounds hB hx x0 x1 hr (m/3+2+1) (refAt_le (Nat.two_pow_pos m) hB hx x0) (fun K=>?_)
 rw[Rat.natCast_add]
 exact refAt_near hB hx x0 x1 K
theorem three_two:(2:Rat)*(((3:Nat):Rat)-((1:Nat):Rat))=((3:Nat):Rat)+((1:Nat):Rat):=by decide+kernel
theorem ln_two {s L H:Nat}(o:AtOk 1 3 s L H):LnIn 2 (2*(L:Rat)*pw (-(s:Int))) (2*(H:Rat)*pw (-(s:Int))):=ln_of_at o (by decide) (by decide) three_two
theorem ln_two_ref (m:Nat):LnIn 2 (2*((refAt 1 3 (2^m) (m/3+2):Nat):Rat)*pw (-(m:Int))) (2*((refAt 1 3 (2^m) (m/3+2)+8:Nat):Rat)*pw (-(m:Int))):=ln_of_ref (by decide) (by decide) three_two
theorem pow_two (n:Nat):(2:Rat)^n=pw (n:Int):=(Rat.zpow_natCast 2 n).symm
theorem ln_pw {l h:Rat}(k:LnIn 2 l h) (e:Int):LnIn (pw e) (if e<0 then-((e.natAbs:Rat)*h)else(e.natAbs:Rat)*l) (if e<0 then-((e.natAbs:Rat)*l)else(e.natAbs:Rat)*h):=by
 have p:=k.pow e.natAbs
 rw[pow_two]at p
 by_cases he:e<0
 ·rw[if_pos he,if_pos he]
  have h1:e= -((e.natAbs:Nat):Int):=by omega
  have hm:pw ((e.natAbs:Nat):Int)*pw e=1:=by
   have:=pw_neg ((e.natAbs:Nat):Int)
   rw[Rat.mul_comm,←h1]at this
   exact this
  exact p.inv (pw_pos e) hm
 ·rw[if_neg he,if_neg he]
  have h1:((e.natAbs:Nat):Int)=e:=by omega
  rw[h1]at p
  exact p
end Go.Proofs.YtffaefjkpipjnaaGreatDoor
namespace Go.Proofs.YtffaefjkpipjnaaGreatDoor
set_option maxRecDepth 100000
set_option linter.unusedVariables false
def nearP (M:Nat):Nat:=if 3*2^(bitN M-1)≤2*M then 2^(bitN M-1)+2^(bitN M-1)else 2^(bitN M-1)
def nearE (M:Nat) (E:Int):Int:=if 3*2^(bitN M-1)≤2*M then topD ⟨false,M,E⟩+1 else topD ⟨false,M,E⟩
def nearN (M:Nat):Nat:=if M<nearP M then nearP M-M else M-nearP M
theorem topn_le {M:Nat}(h:M≠0):2^(bitN M-1)≤M∧M<2^(bitN M-1)+2^(bitN M-1):=by
 have h1:=bitN_lt M
 have h2:bitN M≠0:=fun e=>by rw[e]at h1;omega
 have e:2^bitN M=2^(bitN M-1)+2^(bitN M-1):=by
  rw[show bitN M=bitN M-1+1 by omega,Nat.pow_succ,Nat.add_sub_cancel];omega
 refine⟨?_,by omega⟩
 rcases Nat.lt_or_ge M (2^(bitN M-1))with h3|h3
 ·have:=bitN_le.2 h3;omega
 ·exact h3
theorem near_third {M:Nat}(h:M≠0):3*nearN M≤M+nearP M∧0<nearP M:=by
 obtain⟨h1,h2⟩:=topn_le h
 have h3:=Nat.two_pow_pos (bitN M-1)
 unfold nearN nearP
 generalize 2^(bitN M-1)=P at*
 (repeat' split)<;>omega
theorem near_pw {M:Nat}{E:Int}(h:M≠0):(nearP M:Rat)*pw E=pw (nearE M E):=by
 have hb:bitN M≠0:=fun e=>by
  have:=bitN_lt M
  rw[e]at this;omega
 unfold nearP nearE topD
 split
 ·rw[show 2^(bitN M-1)+2^(bitN M-1)=2^(bitN M)by
   rw[show bitN M=bitN M-1+1 by omega,Nat.pow_succ,Nat.add_sub_cancel];omega,←pw_nat,←pw_add]
  congr 1
  show(bitN M:Int)+E=(bitN M:Nat)-1+E+1
  omega
 ·rw[←pw_nat,←pw_add]
  congr 1
  show((bitN M-1:Nat):Int)+E=(bitN M:Nat)-1+E
  omega
theorem near_top {M:Nat}{E:Int}:topD ⟨false,M,E⟩≤nearE M E∧nearE M E≤topD ⟨false,M,E⟩+1:=by
 unfold nearE;split<;>omega
theorem near_ln {M s L H:Nat}{E:Int}(h:M≠0) (o:AtOk (nearN M) (M+nearP M) s L H):
 ∃r:Rat,r*pw (nearE M E)=(M:Rat)*pw E∧LnIn r (if M<nearP M then-(2*(H:Rat)*pw (-(s:Int)))else 2*(L:Rat)*pw (-(s:Int))) (if M<nearP M then-(2*(L:Rat)*pw (-(s:Int)))else 2*(H:Rat)*pw (-(s:Int))):=by
 obtain⟨h3,hP⟩:=near_third h
 have hPp:=rq_nat_pos hP
 have hM:=rq_nat_pos (Nat.pos_of_ne_zero h)
 obtain⟨ip,ic⟩:=rq_inv_pos hPp
 obtain⟨jp,jc⟩:=rq_inv_pos hM
 refine⟨(M:Rat)*(nearP M:Rat)⁻¹,?_,?_⟩
 ·rw[←near_pw (E:=E) h]
  have e:(M:Rat)*(nearP M:Rat)⁻¹*((nearP M:Rat)*pw E)=((nearP M:Rat)⁻¹*(nearP M:Rat))*((M:Rat)*pw E):=by grind
  rw[e,ic,Rat.one_mul]
 ·by_cases hlt:M<nearP M
  ·rw[if_pos hlt,if_pos hlt]
   have hN:nearN M=nearP M-M:=by unfold nearN;rw[if_pos hlt]
   have eN:((nearN M:Nat):Rat)=(nearP M:Rat)-(M:Rat):=by
    have:((nearN M+M:Nat):Rat)=(nearP M:Rat):=by rw[hN];congr 1;omega
    rw[Rat.natCast_add]at this
    grind
   have k:=ln_of_at (r:=(nearP M:Rat)*(M:Rat)⁻¹) o (by omega) h3 (by
    rw[eN,Rat.natCast_add]
    have e:(nearP M:Rat)*(M:Rat)⁻¹*((M:Rat)+(nearP M:Rat)-((nearP M:Rat)-(M:Rat)))=(nearP M:Rat)*2*((M:Rat)⁻¹*(M:Rat)):=by grind
    rw[e,jc];grind)
   refine k.inv (Rat.mul_pos hM ip) ?_
   have e:(nearP M:Rat)*(M:Rat)⁻¹*((M:Rat)*(nearP M:Rat)⁻¹)=((M:Rat)⁻¹*(M:Rat))*((nearP M:Rat)⁻¹*(nearP M:Rat)):=by grind
   rw[e,jc,ic,Rat.one_mul]
  ·rw[if_neg hlt,if_neg hlt]
   have hN:nearN M=M-nearP M:=by unfold nearN;rw[if_neg hlt]
   have eN:((nearN M:Nat):Rat)=(M:Rat)-(nearP M:Rat):=by
    have:((nearN M+nearP M:Nat):Rat)=(M:Rat):=by rw[hN];congr 1;omega
    rw[Rat.natCast_add]at this
    grind
   exact ln_of_at o (by omega) h3 (by
    rw[eN,Rat.natCast_add]
    have e:(M:Rat)*(nearP M:Rat)⁻¹*((M:Rat)+(nearP M:Rat)-((M:Rat)-(nearP M:Rat)))=(M:Rat)*2*((nearP M:Rat)⁻¹*(nearP M:Rat)):=by grind
    rw[e,ic];grind)
structure LogOk (d lo hi:Dn) (s:Nat):Prop where
 ln:LnIn (qv d) (qv lo) (qv hi)
 wide:qv hi≤qv lo+(((topD d).natAbs+2:Nat):Rat)*((2*s+128:Nat):Rat)*pw (-(s:Int))
 eLo: -(s:Int)≤lo.e
 eHi: -(s:Int)≤hi.e
 one:d.m=1→d.e=0→lo.m=0∧hi.m=0
 bLo:bareD lo=lo
 bHi:bareD hi=hi
 mLo:Mid 10000 lo
 mHi:Mid 10000 hi
theorem qv_m_zero {d:Dn}(h:qv d=0):d.m=0:=by
 rcases Nat.eq_zero_or_pos d.m with h0|h0
 ·exact h0
 ·exfalso
  have hp:0<(d.m:Rat)*pw d.e:=Rat.mul_pos (rq_nat_pos h0) (pw_pos _)
  unfold qv at h
  split at h
  ·grind
  ·grind
def endLo (neg:Bool) (L H s:Nat):Dn:=⟨neg,if neg then H else L,-(s:Int)⟩
def endHi (neg:Bool) (L H s:Nat):Dn:=⟨neg,if neg then L else H,-(s:Int)⟩
theorem endLo_mid {neg:Bool}{L H s:Nat}(hLH:L≤H) (hs:s≤9000) (hb:bitN H≤s+60):Mid 9100 (endLo neg L H s):=by
 have:=bitN_mono hLH
 refine⟨?_,?_,?_⟩
 ·show-9100≤-(s:Int);omega
 ·show-(s:Int)≤9100;omega
 ·show(bitN (if neg then H else L):Int)+ -(s:Int)≤9100
  cases neg
  ·show(bitN L:Int)+ -(s:Int)≤9100;omega
  ·show(bitN H:Int)+ -(s:Int)≤9100;omega
theorem endHi_mid {neg:Bool}{L H s:Nat}(hLH:L≤H) (hs:s≤9000) (hb:bitN H≤s+60):Mid 9100 (endHi neg L H s):=by
 have:=bitN_mono hLH
 refine⟨?_,?_,?_⟩
 ·show-9100≤-(s:Int);omega
 ·show-(s:Int)≤9100;omega
 ·show(bitN (if neg then L else H):Int)+ -(s:Int)≤9100
  cases neg
  ·show(bitN H:Int)+ -(s:Int)≤9100;omega
  ·show(bitN L:Int)+ -(s:Int)≤9100;omega
theorem at_size {A B s L H:Nat}(o:AtOk A B s L H) (h2:s≤9000):bitN (H*2)≤s+20:=by
 have h0:=Nat.two_pow_pos s
 have h3:=o.short
 have h4:=o.wide
 have h5:s*2^s≤9000*2^s:=Nat.mul_le_mul_right _ h2
 refine bitN_le.2 ?_
 rw[Nat.pow_add]
 omega
theorem qv_endLo (neg:Bool) (L H s:Nat):qv (endLo neg L H s)=if neg then-((H:Rat)*pw (-(s:Int)))else(L:Rat)*pw (-(s:Int)):=by
 cases neg<;>rfl
theorem qv_endHi (neg:Bool) (L H s:Nat):qv (endHi neg L H s)=if neg then-((L:Rat)*pw (-(s:Int)))else(H:Rat)*pw (-(s:Int)):=by
 cases neg<;>rfl
theorem pow20:bitN 1048578≤21:=bitN_le.2 (by decide)
set_option maxHeartbeats 1000000 in
theorem log_ok {M s L H L2 H2 n:Nat}{E:Int}{ng eg:Bool}(h:M≠0) (s1:8≤s) (s2:s≤9000) (ht: -1048576≤topD ⟨false,M,E⟩) (ht2:topD ⟨false,M,E⟩≤1048576)
 (o:AtOk (nearN M) (M+nearP M) s L H) (hz:nearN M=0→L=0∧H=0) (o2:AtOk 1 3 s L2 H2) (hn:(nearE M E).natAbs=n) (hng:decide (M<nearP M)=ng) (heg:decide (nearE M E<0)=eg):
 ∃lo hi:Dn,addQ (bareD (endLo ng (L*2) (H*2) s)) (bareD (endLo eg ((L2+L2)*n) ((H2+H2)*n) s))=(lo.neg,lo.m,lo.e,0)∧
  addQ (bareD (endHi ng (L*2) (H*2) s)) (bareD (endHi eg ((L2+L2)*n) ((H2+H2)*n) s))=(hi.neg,hi.m,hi.e,0)∧LogOk ⟨false,M,E⟩ lo hi s:=by
 obtain⟨t1,t2⟩:=near_top (M:=M) (E:=E)
 have n1:n≤1048577:=by omega
 have le1:L*2≤H*2:=Nat.mul_le_mul_right _ o.le
 have le2:(L2+L2)*n≤(H2+H2)*n:=Nat.mul_le_mul_right _ (by have:=o2.le;omega)
 have b1:=at_size o s2
 have b2:bitN ((H2+H2)*n)≤s+60:=by
  have h1:=at_size o2 s2
  have h2:bitN n≤21:=Nat.le_trans (bitN_mono (show n≤1048578 by omega)) pow20
  refine Nat.le_trans (bitN_mul_le _ _) ?_
  rw[show H2+H2=H2*2 by omega]
  omega
 have mx1:=endLo_mid (neg:=ng) (s:=s) le1 s2 (by omega)
 have mx2:=endHi_mid (neg:=ng) (s:=s) le1 s2 (by omega)
 have my1:=endLo_mid (neg:=eg) (s:=s) le2 s2 b2
 have my2:=endHi_mid (neg:=eg) (s:=s) le2 s2 b2
 obtain⟨x1,x1e,x1z,-,x1v⟩:=mx1.bare (by omega) (by omega)
 obtain⟨x2,x2e,x2z,-,x2v⟩:=mx2.bare (by omega) (by omega)
 obtain⟨y1,y1e,y1z,-,y1v⟩:=my1.bare (by omega) (by omega)
 obtain⟨y2,y2e,y2z,-,y2v⟩:=my2.bare (by omega) (by omega)
 obtain⟨lo,q1,v1,m1,w1,z1⟩:=addQ_val x1 y1 (by omega) (by omega)
 obtain⟨hi,q2,v2,m2,w2,z2⟩:=addQ_val x2 y2 (by omega) (by omega)
 have ez:∀d:Dn,-(s:Int)≤d.e→(d.m≠0→d.e≤(bareD d).e)→(bareD d).m≠0→-(s:Int)≤(bareD d).e:=fun d h1 h2 h3=>by
  have:=h2 (fun e=>h3 ((bareD_m_zero d).2 e));omega
 rw[x1v,y1v,qv_endLo,qv_endLo]at v1
 rw[x2v,y2v,qv_endHi,qv_endHi]at v2
 obtain⟨r,hr,kr⟩:=near_ln (E:=E) h o
 have kp:=ln_pw (ln_two o2) (nearE M E)
 have k:=kr.mul kp
 rw[hr]at k
 rw[hn]at k
 have u0:=pw_pos (-(s:Int))
 have cL:(((L*2:Nat)):Rat)=2*(L:Rat):=by rw[Rat.natCast_mul];show(L:Rat)*2=_;grind
 have cH:(((H*2:Nat)):Rat)=2*(H:Rat):=by rw[Rat.natCast_mul];show(H:Rat)*2=_;grind
 have cL2:((((L2+L2)*n:Nat)):Rat)=(n:Rat)*(2*(L2:Rat)):=by rw[Rat.natCast_mul,Rat.natCast_add];grind
 have cH2:((((H2+H2)*n:Nat)):Rat)=(n:Rat)*(2*(H2:Rat)):=by rw[Rat.natCast_mul,Rat.natCast_add];grind
 rw[cL,cH,cL2,cH2]at v1 v2
 have hw1:((H:Nat):Rat)≤(L:Rat)+((s+64:Nat):Rat):=by rw[←Rat.natCast_add];exact Rat.natCast_le_natCast.2 o.wide
 have hw2:((H2:Nat):Rat)≤(L2:Rat)+((s+64:Nat):Rat):=by rw[←Rat.natCast_add];exact Rat.natCast_le_natCast.2 o2.wide
 have n0:=rq_nat_nonneg n
 have cN:((n:Nat):Rat)≤(((topD ⟨false,M,E⟩).natAbs+1:Nat):Rat):=Rat.natCast_le_natCast.2 (by omega)
 have c128:((2*s+128:Nat):Rat)=2*((s+64:Nat):Rat):=by
  rw[show 2*s+128=2*(s+64)by omega,Rat.natCast_mul];rfl
 have cT:(((topD ⟨false,M,E⟩).natAbs+2:Nat):Rat)=(((topD ⟨false,M,E⟩).natAbs+1:Nat):Rat)+1:=by
  rw[show(topD ⟨false,M,E⟩).natAbs+2=(topD ⟨false,M,E⟩).natAbs+1+1 by omega,Rat.natCast_add];rfl
 have w0:=rq_nat_nonneg (s+64)
 have lnk:LnIn ((M:Rat)*pw E) (qv lo) (qv hi):=by
  refine k.wide ?_ ?_
  ·rw[v1,←hng,←heg]
   by_cases c1:M<nearP M<;>by_cases c2:nearE M E<0<;>simp only[c1,c2,decide_true,decide_false,if_true,if_false,Bool.false_eq_true]<;>grind
  ·rw[v2,←hng,←heg]
   by_cases c1:M<nearP M<;>by_cases c2:nearE M E<0<;>simp only[c1,c2,decide_true,decide_false,if_true,if_false,Bool.false_eq_true]<;>grind
 refine⟨lo,hi,q1,q2,⟨lnk,?_,?_,?_,?_,w1,w2,m1.mono (by omega),m2.mono (by omega)⟩⟩
 ·rw[c128,cT,v1,v2]
  generalize pw (-(s:Int))=u at*
  generalize ((s+64:Nat):Rat)=W at*
  generalize (((topD ⟨false,M,E⟩).natAbs+1:Nat):Rat)=T at*
  have a1:=Rat.mul_le_mul_of_nonneg_right hw1 (Rat.le_of_lt u0)
  have a2:=Rat.mul_le_mul_of_nonneg_left (Rat.mul_le_mul_of_nonneg_right hw2 (Rat.le_of_lt u0)) n0
  have a3:=Rat.mul_le_mul_of_nonneg_right cN (Rat.mul_nonneg w0 (Rat.le_of_lt u0))
  clear k kr kp lnk hr v1 v2 hw1 hw2 cN
  cases ng<;>cases eg<;>simp only[if_true,if_false,Bool.false_eq_true]<;>grind
 ·exact z1 _ (by omega) (ez _ (by show-(s:Int)≤-(s:Int);omega) x1e) (ez _ (by show-(s:Int)≤-(s:Int);omega) y1e)
 ·exact z2 _ (by omega) (ez _ (by show-(s:Int)≤-(s:Int);omega) x2e) (ez _ (by show-(s:Int)≤-(s:Int);omega) y2e)
 ·intro hM1 hE0
  have hM1':M=1:=hM1
  have hE0':E=0:=hE0
  subst hM1'
  subst hE0'
  have p1:nearN 1=0:=by decide
  have p2:nearE 1 0=0:=by decide
  obtain⟨l0,h0⟩:=hz p1
  have hn0:n=0:=by rw[←hn,p2];rfl
  subst l0;subst h0;subst hn0
  have r0:((0:Nat):Rat)=0:=rfl
  rw[r0]at v1 v2
  refine⟨qv_m_zero ?_,qv_m_zero ?_⟩
  ·rw[v1];cases ng<;>cases eg<;>simp only[if_true,if_false,Bool.false_eq_true]<;>grind
  ·rw[v2];cases ng<;>cases eg<;>simp only[if_true,if_false,Bool.false_eq_true]<;>grind
end Go.Proofs.YtffaefjkpipjnaaGreatDoor

namespace Go.Proofs.YtffaefjkpipjnaaGreatDoor
set_option maxRecDepth 100000
set_option linter.unusedVariables false
def unitsN (M:Nat) (E:Int) (s:Nat) (above:Bool):Nat:=
 if 0≤E+(s:Int)then M*2^(E+(s:Int)).toNat else if above then cdiv M (2^(-E-(s:Int)).toNat)else M/2^(-E-(s:Int)).toNat
theorem pw_toNat {t:Int}(h:0≤t):((2^t.toNat:Nat):Rat)=pw t:=by
 rw[←pw_nat,Int.toNat_of_nonneg h]
theorem units_lo (M:Nat) (E:Int) (s:Nat):((unitsN M E s false:Nat):Rat)≤(M:Rat)*pw (E+(s:Int))∧(M:Rat)*pw (E+(s:Int))≤((unitsN M E s false:Nat):Rat)+1:=by
 unfold unitsN
 by_cases h:0≤E+(s:Int)
 ·rw[if_pos h,Rat.natCast_mul,pw_toNat h]
  exact⟨Rat.le_refl,by grind⟩
 ·rw[if_neg h,if_neg (by decide)]
  obtain⟨n,hn⟩:∃n:Nat,E+(s:Int)= -(n:Int):=⟨(-(E+(s:Int))).toNat,by omega⟩
  have hn2:(-E-(s:Int)).toNat=n:=by omega
  rw[hn,hn2]
  have h1:=rq_div_le M (2^n)
  have h2:=rq_lt_div M (Nat.two_pow_pos n)
  have h3:=pw_unit n
  have hp:=pw_pos (-(n:Int))
  have h4:=Rat.mul_le_mul_of_nonneg_right h1 (Rat.le_of_lt hp)
  have h5:=Rat.mul_le_mul_of_nonneg_right h2 (Rat.le_of_lt hp)
  generalize ((2^n:Nat):Rat)=P at*
  generalize pw (-(n:Int))=p at*
  generalize ((M/2^n:Nat):Rat)=q at*
  have e1:q*P*p=q:=by rw[Rat.mul_assoc,h3,Rat.mul_one]
  have e2:(q*P+P)*p=q+1:=by rw[Rat.add_mul,e1,h3]
  rw[e1]at h4
  rw[e2]at h5
  exact⟨h4,h5⟩
theorem units_hi (M:Nat) (E:Int) (s:Nat):(M:Rat)*pw (E+(s:Int))≤((unitsN M E s true:Nat):Rat)∧((unitsN M E s true:Nat):Rat)≤(M:Rat)*pw (E+(s:Int))+1:=by
 unfold unitsN
 by_cases h:0≤E+(s:Int)
 ·rw[if_pos h,Rat.natCast_mul,pw_toNat h]
  exact⟨Rat.le_refl,by grind⟩
 ·rw[if_neg h,if_pos rfl]
  obtain⟨n,hn⟩:∃n:Nat,E+(s:Int)= -(n:Int):=⟨(-(E+(s:Int))).toNat,by omega⟩
  have hn2:(-E-(s:Int)).toNat=n:=by omega
  rw[hn,hn2]
  have h1:=rq_cdiv_ge M (Nat.two_pow_pos n)
  have h2:=rq_cdiv_lt M (Nat.two_pow_pos n)
  have h3:=pw_unit n
  have hp:=pw_pos (-(n:Int))
  have h4:=Rat.mul_le_mul_of_nonneg_right h1 (Rat.le_of_lt hp)
  have h5:=Rat.mul_le_mul_of_nonneg_right h2 (Rat.le_of_lt hp)
  generalize ((2^n:Nat):Rat)=P at*
  generalize pw (-(n:Int))=p at*
  generalize ((cdiv M (2^n):Nat):Rat)=q at*
  have e1:q*P*p=q:=by rw[Rat.mul_assoc,h3,Rat.mul_one]
  have e2:((M:Rat)+P)*p=(M:Rat)*p+1:=by rw[Rat.add_mul,h3]
  rw[e1]at h4 h5
  rw[e2]at h5
  exact⟨h4,h5⟩
def floorU (d:Dn) (s:Nat):Int:=sg d.neg (unitsN d.m d.e s d.neg)
def ceilU (d:Dn) (s:Nat):Int:=sg d.neg (unitsN d.m d.e s (!d.neg))
theorem qv_units (d:Dn) (s:Nat):qv d*pw (s:Int)=if d.neg then-((d.m:Rat)*pw (d.e+(s:Int)))else(d.m:Rat)*pw (d.e+(s:Int)):=by
 unfold qv
 rw[pw_add]
 cases d.neg
 ·rw[if_neg (by decide),if_neg (by decide)];grind
 ·rw[if_pos rfl,if_pos rfl];grind
theorem sg_cast (n:Bool) (x:Nat):((sg n x:Int):Rat)=if n then-(x:Rat)else(x:Rat):=by
 unfold sg
 cases n
 ·rfl
 ·rw[if_pos rfl,if_pos rfl,Rat.intCast_neg];rfl
theorem floor_val (d:Dn) (s:Nat):((floorU d s:Int):Rat)≤qv d*pw (s:Int)∧qv d*pw (s:Int)≤((floorU d s:Int):Rat)+1:=by
 unfold floorU
 rw[qv_units,sg_cast]
 cases hn:d.neg
 ·rw[if_neg (by decide),if_neg (by decide)]
  exact units_lo d.m d.e s
 ·rw[if_pos rfl,if_pos rfl]
  have:=units_hi d.m d.e s
  constructor<;>grind
theorem ceil_val (d:Dn) (s:Nat):qv d*pw (s:Int)≤((ceilU d s:Int):Rat)∧((ceilU d s:Int):Rat)≤qv d*pw (s:Int)+1:=by
 unfold ceilU
 rw[qv_units,sg_cast]
 cases hn:d.neg
 ·rw[if_neg (by decide),if_neg (by decide)]
  exact units_hi d.m d.e s
 ·rw[if_pos rfl,if_pos rfl]
  have:=units_lo d.m d.e s
  rw[Bool.not_true]
  constructor<;>grind
theorem floor_ceil {a b:Dn}{s:Nat}(h:qv a≤qv b):floorU a s≤ceilU b s:=by
 have h1:=(floor_val a s).1
 have h2:=(ceil_val b s).1
 have h3:=Rat.mul_le_mul_of_nonneg_right h (Rat.le_of_lt (pw_pos (s:Int)))
 exact Rat.intCast_le_intCast.1 (by grind)
theorem ceil_floor (d:Dn) (s:Nat):ceilU d s≤floorU d s+1:=by
 unfold floorU ceilU sg unitsN
 have c1:∀a b:Nat,a/b≤cdiv a b∧cdiv a b≤a/b+1:=fun a b=>by unfold cdiv;split<;>omega
 have:=c1 d.m (2^(-d.e-(s:Int)).toNat)
 generalize cdiv d.m (2^(-d.e-(s:Int)).toNat)=x at*
 generalize d.m/2^(-d.e-(s:Int)).toNat=y at*
 generalize d.m*2^(d.e+(s:Int)).toNat=z at*
 by_cases h:0≤d.e+(s:Int)
 ·rw[if_pos h,if_pos h];omega
 ·rw[if_neg h,if_neg h]
  cases d.neg
  ·simp;omega
  ·simp;omega
def splitQ (l:Int) (C D:Nat):Nat:=if l<0 then cdiv l.natAbs C else l.natAbs/D
def splitK (l:Int) (C D:Nat):Int:=if l<0 then-(splitQ l C D:Int)else(splitQ l C D:Int)
def splitA (l:Int) (C D:Nat):Int:=if l<0 then l+(splitQ l C D*C:Nat)else l-(splitQ l C D*D:Nat)
def splitB (l h:Int) (C D:Nat):Int:=if l<0 then h+(splitQ l C D*D:Nat)else h-(splitQ l C D*C:Nat)
theorem splitA_range {l:Int}{C D:Nat}(hC:0<C) (hCD:C≤D):0≤splitA l C D∧splitA l C D<(D:Int):=by
 unfold splitA splitQ
 by_cases hl:l<0
 ·rw[if_pos hl,if_pos hl]
  have h1:=cdiv_ge l.natAbs hC
  have h2:=cdiv_lt l.natAbs hC
  generalize cdiv l.natAbs C*C=x at*
  omega
 ·rw[if_neg hl,if_neg hl]
  have h1:=Nat.div_mul_le_self l.natAbs D
  have h2:=lt_div' l.natAbs (show 0<D by omega)
  generalize l.natAbs/D*D=x at*
  omega
theorem splitA_le {l h:Int}{C D:Nat}(hlh:l≤h) (hCD:C≤D):splitA l C D≤splitB l h C D:=by
 unfold splitA splitB
 have h1:splitQ l C D*C≤splitQ l C D*D:=Nat.mul_le_mul_left _ hCD
 by_cases hl:l<0
 ·rw[if_pos hl,if_pos hl];omega
 ·rw[if_neg hl,if_neg hl];omega
theorem splitB_le {l h:Int}{C D:Nat}(hCD:C≤D):splitB l h C D=splitA l C D+(h-l)+((splitQ l C D*(D-C):Nat):Int):=by
 unfold splitA splitB
 have h1:splitQ l C D*(D-C)+splitQ l C D*C=splitQ l C D*D:=by rw[←Nat.mul_add];congr 1;omega
 by_cases hl:l<0
 ·rw[if_pos hl,if_pos hl];omega
 ·rw[if_neg hl,if_neg hl];omega
theorem splitQ_abs (l:Int) (C D:Nat):(splitK l C D).natAbs=splitQ l C D:=by
 unfold splitK
 split<;>omega
theorem exp_k {c d:Rat}(k:LnIn 2 c d) (q:Nat):XL ((q:Rat)*c) 1 (pw (q:Int))∧XL (-((q:Rat)*d)) (pw (q:Int)) 1:=by
 have h:=k.pow q
 rw[pow_two]at h
 exact⟨h.lo,h.hi⟩
theorem exp_lo {x A:Rat}{s L:Nat}{c d:Rat}{l:Int}{q:Nat}(hx:((l:Int):Rat)≤x*pw (s:Int)) (k:LnIn 2 (c*pw (-(s:Int))) (d*pw (-(s:Int)))) (hA:XL (-(A*pw (-(s:Int)))) ((L:Rat)*pw (-(s:Int))) 1):
 (((l:Int):Rat)=A+(q:Rat)*d→XL (-x) ((L:Rat)*pw (-(s:Int))*pw (q:Int)) 1)∧(((l:Int):Rat)=A-(q:Rat)*c→XL (-x) ((L:Rat)*pw (-(s:Int))*pw (-(q:Int))) 1):=by
 have hu:pw (s:Int)*pw (-(s:Int))=1:=by rw[Rat.mul_comm];exact pw_neg (s:Int)
 have hp:=pw_pos (-(s:Int))
 have hx2:((l:Int):Rat)*pw (-(s:Int))≤x:=by
  have:=Rat.mul_le_mul_of_nonneg_right hx (Rat.le_of_lt hp)
  rwa [Rat.mul_assoc,hu,Rat.mul_one]at this
 obtain⟨k1,k2⟩:=exp_k k q
 refine⟨fun e=>?_,fun e=>?_⟩
 ·have h:=hA.mul k2
  rw[Rat.mul_one]at h
  refine h.mono ?_
  rw[e]at hx2
  grind
 ·have k3:XL ((q:Rat)*(c*pw (-(s:Int)))) (pw (-(q:Int))) 1:=by
   have h5:pw (q:Int)*pw (-(q:Int))=1:=by rw[Rat.mul_comm];exact pw_neg (q:Int)
   have:=k1.scale (pw_pos (-(q:Int)))
   rwa [h5,Rat.one_mul]at this
  have h:=hA.mul k3
  rw[Rat.mul_one]at h
  refine h.mono ?_
  rw[e]at hx2
  grind
theorem exp_hi {x B:Rat}{s H:Nat}{c d:Rat}{h:Int}{q:Nat}(hx:x*pw (s:Int)≤((h:Int):Rat)) (k:LnIn 2 (c*pw (-(s:Int))) (d*pw (-(s:Int)))) (hB:XL (B*pw (-(s:Int))) 1 ((H:Rat)*pw (-(s:Int)))):
 (((h:Int):Rat)=B+(q:Rat)*c→XL x 1 ((H:Rat)*pw (-(s:Int))*pw (q:Int)))∧(((h:Int):Rat)=B-(q:Rat)*d→XL x 1 ((H:Rat)*pw (-(s:Int))*pw (-(q:Int)))):=by
 have hu:pw (s:Int)*pw (-(s:Int))=1:=by rw[Rat.mul_comm];exact pw_neg (s:Int)
 have hp:=pw_pos (-(s:Int))
 have hx2:x≤((h:Int):Rat)*pw (-(s:Int)):=by
  have:=Rat.mul_le_mul_of_nonneg_right hx (Rat.le_of_lt hp)
  rwa [Rat.mul_assoc,hu,Rat.mul_one]at this
 obtain⟨k1,k2⟩:=exp_k k q
 refine⟨fun e=>?_,fun e=>?_⟩
 ·have h9:=hB.mul k1
  rw[Rat.mul_one]at h9
  refine h9.mono ?_
  rw[e]at hx2
  grind
 ·have k3:XL (-((q:Rat)*(d*pw (-(s:Int))))) 1 (pw (-(q:Int))):=by
   have h5:pw (q:Int)*pw (-(q:Int))=1:=by rw[Rat.mul_comm];exact pw_neg (q:Int)
   have:=k2.scale (pw_pos (-(q:Int)))
   rwa [h5,Rat.one_mul]at this
  have h9:=hB.mul k3
  rw[Rat.mul_one]at h9
  refine h9.mono ?_
  rw[e]at hx2
  grind
theorem exp_split {lo hi:Dn}{s C D A B L H:Nat}(k:LnIn 2 ((C:Rat)*pw (-(s:Int))) ((D:Rat)*pw (-(s:Int)))) (hA:splitA (floorU lo s) C D=(A:Int)) (hB:splitB (floorU lo s) (ceilU hi s) C D=(B:Int)) (hBS:B≤2^s) (o:ExOk A B s L H):
 XL (-(qv lo)) ((L:Rat)*pw (splitK (floorU lo s) C D-(s:Int))) 1∧XL (qv hi) 1 ((H:Rat)*pw (splitK (floorU lo s) C D-(s:Int))):=by
 have hSp:=rq_nat_pos (Nat.two_pow_pos s)
 have hu:=pw_unit s
 have hp:=pw_pos (-(s:Int))
 have hL0:0<(L:Rat):=rq_nat_pos (Nat.lt_of_lt_of_le (Nat.two_pow_pos s) o.low)
 have hx0:((2^s:Nat):Rat)*((A:Rat)*pw (-(s:Int)))=(A:Rat):=by
  rw[Rat.mul_comm (A:Rat),←Rat.mul_assoc,hu,Rat.one_mul]
 have hx1:((2^s:Nat):Rat)*((B:Rat)*pw (-(s:Int)))=(B:Rat):=by
  rw[Rat.mul_comm (B:Rat),←Rat.mul_assoc,hu,Rat.one_mul]
 have p0:0≤(A:Rat)*pw (-(s:Int)):=Rat.mul_nonneg (rq_nat_nonneg A) (Rat.le_of_lt hp)
 have p1:0≤(B:Rat)*pw (-(s:Int)):=Rat.mul_nonneg (rq_nat_nonneg B) (Rat.le_of_lt hp)
 have p2:(B:Rat)*pw (-(s:Int))≤1:=by
  have:=Rat.mul_le_mul_of_nonneg_right (rq_le hBS) (Rat.le_of_lt hp)
  rwa [hu]at this
 have a1:=o.lo _ hx0 p0
 have a2:=o.hi _ hx1 p1 p2
 have XA:XL (-((A:Rat)*pw (-(s:Int)))) ((L:Rat)*pw (-(s:Int))) 1:=by
  refine XL.neg_series (K:=s+2) p0 (Rat.mul_pos hL0 hp) ?_ (by decide)
  have:=Rat.mul_le_mul_of_nonneg_right a1 (Rat.le_of_lt hp)
  rw[Rat.one_mul]
  have e:((2^s:Nat):Rat)*exA ((A:Rat)*pw (-(s:Int))) (s+2)*pw (-(s:Int))=exA ((A:Rat)*pw (-(s:Int))) (s+2):=by
   rw[Rat.mul_comm ((2^s:Nat):Rat),Rat.mul_assoc,hu,Rat.mul_one]
  rwa [e]at this
 have XB:XL ((B:Rat)*pw (-(s:Int))) 1 ((H:Rat)*pw (-(s:Int))):=by
  refine XL.of_series p1 (by decide) (fun K=>?_)
  have:=Rat.mul_le_mul_of_nonneg_right (a2 K) (Rat.le_of_lt hp)
  rw[Rat.mul_one]
  have e:((2^s:Nat):Rat)*exA ((B:Rat)*pw (-(s:Int))) K*pw (-(s:Int))=exA ((B:Rat)*pw (-(s:Int))) K:=by
   rw[Rat.mul_comm ((2^s:Nat):Rat),Rat.mul_assoc,hu,Rat.mul_one]
  rwa [e]at this
 have f1:=(floor_val lo s).1
 have f2:=(ceil_val hi s).1
 obtain⟨q1,q2⟩:=exp_lo (q:=splitQ (floorU lo s) C D) f1 k XA
 obtain⟨q3,q4⟩:=exp_hi (q:=splitQ (floorU lo s) C D) f2 k XB
 have cast2:∀a b:Nat,(((a*b:Nat):Int):Rat)=(a:Rat)*(b:Rat):=fun a b=>by
  show((a*b:Nat):Rat)=_
  rw[Rat.natCast_mul]
 unfold splitA at hA
 unfold splitB at hB
 unfold splitK
 by_cases hl:floorU lo s<0
 ·rw[if_pos hl]at hA hB⊢
  rw[show-(splitQ (floorU lo s) C D:Int)-(s:Int)= -(s:Int)+ -(splitQ (floorU lo s) C D:Int)by omega,pw_add,←Rat.mul_assoc,←Rat.mul_assoc]
  refine⟨q2 ?_,q4 ?_⟩
  ·have e:floorU lo s=(A:Int)-((splitQ (floorU lo s) C D*C:Nat):Int):=by omega
   conv=>lhs;rw[e]
   rw[Rat.intCast_sub,cast2];rfl
  ·have e:ceilU hi s=(B:Int)-((splitQ (floorU lo s) C D*D:Nat):Int):=by omega
   rw[e,Rat.intCast_sub,cast2];rfl
 ·rw[if_neg hl]at hA hB⊢
  rw[show(splitQ (floorU lo s) C D:Int)-(s:Int)= -(s:Int)+(splitQ (floorU lo s) C D:Int)by omega,pw_add,←Rat.mul_assoc,←Rat.mul_assoc]
  refine⟨q1 ?_,q3 ?_⟩
  ·have e:floorU lo s=(A:Int)+((splitQ (floorU lo s) C D*D:Nat):Int):=by omega
   conv=>lhs;rw[e]
   rw[Rat.intCast_add,cast2];rfl
  ·have e:ceilU hi s=(B:Int)+((splitQ (floorU lo s) C D*C:Nat):Int):=by omega
   rw[e,Rat.intCast_add,cast2];rfl
end Go.Proofs.YtffaefjkpipjnaaGreatDoor
namespace Go.Proofs.YtffaefjkpipjnaaGreatDoor
set_option maxRecDepth 100000
set_option linter.unusedVariables false
theorem exp_23:XL (2/3) 1 2:=by
 refine XL.of_series (by decide+kernel) (by decide) (fun K=>?_)
 rw[Rat.mul_one]
 refine Rat.le_trans (exA_bound (x:=2/3) (by decide+kernel) (by decide+kernel) (k:=6) (by decide) K) ?_
 decide+kernel
theorem exp_710:XL (-(7/10)) 2 1:=by
 refine XL.neg_series (K:=6) (by decide+kernel) (by decide) ?_ (by decide)
 rw[Rat.one_mul]
 decide+kernel
theorem ln2_ends {s C D:Nat}(k:LnIn 2 ((C:Rat)*pw (-(s:Int))) ((D:Rat)*pw (-(s:Int)))):10*C≤7*2^s∧2*2^s≤3*D:=by
 have h1:=k.lo.le_of exp_710
 have h2:=exp_23.le_of k.hi
 have hu:=pw_unit s
 have hS:=rq_nat_pos (Nat.two_pow_pos s)
 constructor
 ·refine rq_unle ?_
  rw[Rat.natCast_mul,Rat.natCast_mul,show((10:Nat):Rat)=10 from rfl,show((7:Nat):Rat)=7 from rfl]
  have h3:=Rat.mul_le_mul_of_nonneg_right h1 (Rat.le_of_lt hS)
  rw[Rat.mul_assoc,Rat.mul_comm (pw _),hu,Rat.mul_one]at h3
  grind
 ·refine rq_unle ?_
  rw[Rat.natCast_mul,Rat.natCast_mul,show((2:Nat):Rat)=2 from rfl,show((3:Nat):Rat)=3 from rfl]
  have h3:=Rat.mul_le_mul_of_nonneg_right h2 (Rat.le_of_lt hS)
  rw[Rat.mul_assoc (D:Rat),Rat.mul_comm (pw _),hu,Rat.mul_one]at h3
  grind
theorem two_s:∀j:Nat,2*(32+j)+128≤2^(8+j)
 |0=>by decide
 |j+1=>by
  have:=two_s j
  rw[show 8+(j+1)=(8+j)+1 by omega,Nat.pow_succ]
  omega
theorem splitQ_le {l:Int}{C D:Nat}(hC:0<C) (hCD:C≤D) (h:l.natAbs≤8192*C):splitQ l C D≤8192:=by
 unfold splitQ
 split
 ·exact cdiv_le_of hC h
 ·exact Nat.le_of_lt_succ ((Nat.div_lt_iff_lt_mul (show 0<D by omega)).2 (by
   have h1:8192*C≤8192*D:=Nat.mul_le_mul_left _ hCD
   show l.natAbs<8193*D
   omega))
theorem split_fits {l h:Int}{s C D:Nat}(s1:32≤s) (k:LnIn 2 ((C:Rat)*pw (-(s:Int))) ((D:Rat)*pw (-(s:Int)))) (hCD:C≤D) (hw:D≤C+(2*s+128)) (hlh:l≤h) (hl:l.natAbs≤4096*2^s) (hh:(h-l)*8≤((2^s:Nat):Int)):
 splitB l h C D≤((2^s:Nat):Int):=by
 obtain⟨e1,e2⟩:=ln2_ends k
 obtain⟨j,rfl⟩:∃j,s=32+j:=⟨s-32,by omega⟩
 have h2:=two_s j
 have e3:2^(32+j)=16777216*2^(8+j):=by
  rw[show 32+j=24+(8+j)by omega,Nat.pow_add]
 rw[e3]at e1 e2 hl hh⊢
 clear e3 k
 generalize 2^(8+j)=x at*
 have hC:0<C:=by omega
 have hC2:16777216*x≤2*C:=by omega
 have hq:=splitQ_le hC hCD (show l.natAbs≤8192*C by omega)
 rw[splitB_le hCD]
 obtain⟨a1,a2⟩:=splitA_range (l:=l) hC hCD
 have hm:splitQ l C D*(D-C)≤8192*(2*(32+j)+128):=Nat.mul_le_mul hq (by omega)
 generalize splitQ l C D*(D-C)=y at*
 generalize splitA l C D=z at*
 omega
theorem exp_thin {l h:Int}{s C D A B L H:Nat}(hCD:C≤D) (hw:D≤C+(2*s+128)) (hlh:h≤l+1) (hA:splitA l C D=(A:Int)) (hB:splitB l h C D=(B:Int)) (o:ExOk A B s L H):
 H≤L+(8*s+131+3*(splitK l C D).natAbs*(2*s+128)):=by
 rw[splitQ_abs]
 have h1:=splitB_le (l:=l) (h:=h) hCD
 rw[hA,hB]at h1
 have h2:splitQ l C D*(D-C)≤splitQ l C D*(2*s+128):=Nat.mul_le_mul_left _ (by omega)
 have h3:=o.wide2
 have e:3*splitQ l C D*(2*s+128)=3*(splitQ l C D*(2*s+128)):=Nat.mul_assoc _ _ _
 rw[e]
 generalize splitQ l C D*(2*s+128)=y at*
 generalize splitQ l C D*(D-C)=z at*
 omega
end Go.Proofs.YtffaefjkpipjnaaGreatDoor
namespace Go.Proofs.YtffaefjkpipjnaaGreatDoor
set_option maxRecDepth 100000
set_option linter.unusedVariables false
theorem three_s:∀j:Nat,96*(8+j+64)≤29*2^(8+j)
 |0=>by decide
 |j+1=>by
  have:=three_s j
  rw[show 8+(j+1)=(8+j)+1 by omega,Nat.pow_succ]
  omega
theorem ln2_pos8 {s L H:Nat}(o:AtOk 1 3 s L H) (s1:8≤s):2^s≤32*L∧0<L:=by
 have e:(1/3:Rat)*((3:Nat):Rat)=((1:Nat):Rat):=by decide+kernel
 have h1:=o.hi _ e (by decide+kernel) (by decide+kernel) 1
 have e1:atA (1/3) 1=1/3:=by decide+kernel
 rw[e1]at h1
 have hw:=o.wide
 have h2:2^s≤3*H:=by
  refine Rat.natCast_le_natCast.1 ?_
  rw[Rat.natCast_mul]
  show _≤(3:Rat)*_
  grind
 obtain⟨j,rfl⟩:∃j,s=8+j:=⟨s-8,by omega⟩
 have h3:=three_s j
 have hp:=Nat.two_pow_pos (8+j)
 generalize 2^(8+j)=x at*
 omega
theorem units_le {M:Nat}{E:Int}{s:Nat}{ab:Bool}(h:M=0∨(bitN M:Int)-1+E<12):unitsN M E s ab≤2^(12+s):=by
 rcases h with h|h
 ·subst h
  have h0:∀a,cdiv 0 a=0:=cdiv_zero
  unfold unitsN
  split
  ·rw[Nat.zero_mul];exact Nat.zero_le _
  ·split
   ·rw[h0];exact Nat.zero_le _
   ·rw[Nat.zero_div];exact Nat.zero_le _
 ·have hb:=bitN_lt M
  unfold unitsN
  by_cases h0:0≤E+(s:Int)
  ·rw[if_pos h0]
   have h1:=Nat.mul_le_mul_right (2^(E+(s:Int)).toNat) (Nat.le_of_lt hb)
   rw[←Nat.pow_add]at h1
   exact Nat.le_trans h1 (Nat.pow_le_pow_right (by decide) (by omega))
  ·rw[if_neg h0]
   have key:M≤2^(12+s)*2^(-E-(s:Int)).toNat:=by
    rw[←Nat.pow_add]
    exact Nat.le_trans (Nat.le_of_lt hb) (Nat.pow_le_pow_right (by decide) (by omega))
   split
   ·exact cdiv_le_of (Nat.two_pow_pos _) key
   ·exact Nat.le_trans (div_le_cdiv _ _) (cdiv_le_of (Nat.two_pow_pos _) key)
theorem split_sizes {l:Int}{s C D L:Nat}(hC:C=L+L) (hCD:C≤D) (h32:2^s≤32*L) (hL:0<L) (hl:l.natAbs≤2^(12+s)):splitQ l C D≤65536:=by
 have hl2:l.natAbs≤65536*C:=by
  rw[Nat.pow_add]at hl
  have:2^12*2^s≤2^12*(32*L):=Nat.mul_le_mul_left _ h32
  generalize 2^s=x at*
  omega
 unfold splitQ
 split
 ·exact cdiv_le_of (by omega) hl2
 ·exact Nat.le_of_lt_succ ((Nat.div_lt_iff_lt_mul (show 0<D by omega)).2 (by
   have h1:65536*C≤65536*D:=Nat.mul_le_mul_left _ hCD
   show l.natAbs<65537*D
   omega))
theorem up_cdiv {A B U:Nat}(h:A/B+(if A%B=0 then 0 else 1)=U):cdiv A B=U:=by
 rw[←h]
 unfold cdiv
 split<;>simp_all
end Go.Proofs.YtffaefjkpipjnaaGreatDoor
namespace Go.Proofs.YtffaefjkpipjnaaGreatDoor
set_option maxRecDepth 100000
set_option linter.unusedVariables false
theorem exp_told {lo hi:Dn}{s L H A B Le He m1 m2:Nat}{n1 n2:Bool}{f1 f2:Int}(s2:s≤8900) (o:AtOk 1 3 s L H) (hA:splitA (floorU lo s) (L+L) (H+H)=(A:Int)) (hB:splitB (floorU lo s) (ceilU hi s) (L+L) (H+H)=(B:Int)) (hBS:B≤2^s) (oe:ExOk A B s Le He)
 (hk:(splitK (floorU lo s) (L+L) (H+H)).natAbs≤65536)
 (qa:bareD ⟨false,Le,-((s:Int)-splitK (floorU lo s) (L+L) (H+H))⟩=⟨n1,m1,f1⟩) (qb:bareD ⟨false,He,-((s:Int)-splitK (floorU lo s) (L+L) (H+H))⟩=⟨n2,m2,f2⟩):
 XL (-(qv lo)) (qv ⟨n1,m1,f1⟩) 1∧XL (qv hi) 1 (qv ⟨n2,m2,f2⟩):=by
 have h2:=ln_two o
 have e2:∀x:Nat,2*(x:Rat)=((x+x:Nat):Rat):=fun x=>by rw[Rat.natCast_add];grind
 rw[e2,e2]at h2
 obtain⟨h3,h4⟩:=exp_split h2 hA hB hBS oe
 have v1:=qv_bare (d:=⟨false,Le,-((s:Int)-splitK (floorU lo s) (L+L) (H+H))⟩) (by dsimp only;omega) (by dsimp only;omega)
 have v2:=qv_bare (d:=⟨false,He,-((s:Int)-splitK (floorU lo s) (L+L) (H+H))⟩) (by dsimp only;omega) (by dsimp only;omega)
 rw[qa,qv_pos,show-((s:Int)-splitK (floorU lo s) (L+L) (H+H))=splitK (floorU lo s) (L+L) (H+H)-(s:Int)by omega]at v1
 rw[qb,qv_pos,show-((s:Int)-splitK (floorU lo s) (L+L) (H+H))=splitK (floorU lo s) (L+L) (H+H)-(s:Int)by omega]at v2
 rw[v1,v2]
 exact⟨h3,h4⟩
theorem not_refused {lo hi:Dn}{s L H:Nat}(s1:32≤s) (o:AtOk 1 3 s L H) (hlh:floorU lo s≤ceilU hi s) (hl:(floorU lo s).natAbs≤2^(12+s)) (hh:(ceilU hi s-floorU lo s)*8≤((2^s:Nat):Int)):¬((2^s:Nat):Int)<splitB (floorU lo s) (ceilU hi s) (L+L) (H+H):=by
 have h2:=ln_two o
 have e2:∀x:Nat,2*(x:Rat)=((x+x:Nat):Rat):=fun x=>by rw[Rat.natCast_add];grind
 rw[e2,e2]at h2
 have h3:=o.le;have h4:=o.wide
 rw[Nat.pow_add]at hl
 exact Int.not_lt.2 (split_fits s1 h2 (by omega) (by omega) hlh hl hh)
theorem top_small {d:Dn}(h0:d.m≠0) (h1:qv d<4096) (h2: -4096<qv d):(bitN d.m:Int)-1+d.e<12:=by
 have hb:=bitN_ge h0
 have h3:(d.m:Rat)*pw d.e<4096:=by
  unfold qv at h1 h2
  cases hn:d.neg
  ·rw[hn,if_neg (by decide)]at h1;exact h1
  ·rw[hn,if_pos rfl]at h2;grind
 rcases Int.lt_or_le ((bitN d.m:Int)-1+d.e) 12 with h|h
 ·exact h
 ·exfalso
  have hp:=bitN_pos h0
  have h4:=Rat.mul_le_mul_of_nonneg_right (rq_le hb) (Rat.le_of_lt (pw_pos d.e))
  have h5:((2^(bitN d.m-1):Nat):Rat)*pw d.e=pw ((bitN d.m:Int)-1+d.e):=by
   rw[←pw_nat,←pw_add]
   congr 1
   omega
  rw[h5]at h4
  have h6:=pw_mono h
  have h7:pw 12=4096:=by
   have:=pw_nat 12
   rw[show((12:Nat):Int)=12 from rfl]at this
   rw[this];rfl
  rw[h7]at h6
  grind
theorem floor_small {d:Dn}{s:Nat}(h:d.m=0∨(bitN d.m:Int)-1+d.e<12):(floorU d s).natAbs≤2^(12+s):=by
 unfold floorU
 have h1:=units_le (s:=s) (ab:=d.neg) h
 have:(sg d.neg (unitsN d.m d.e s d.neg)).natAbs=unitsN d.m d.e s d.neg:=by unfold sg;split<;>omega
 rw[this];exact h1
end Go.Proofs.YtffaefjkpipjnaaGreatDoor
namespace Go.Proofs.YtffaefjkpipjnaaGreatDoor
set_option maxRecDepth 100000
set_option linter.unusedVariables false
theorem little {b:Nat}(hb:b<4096):0≤qv ⟨false,b,-12⟩∧qv ⟨false,b,-12⟩≤1:=by
 rw[qv_pos]
 have hp:=pw_pos (-12)
 refine⟨Rat.mul_nonneg (rq_nat_nonneg b) (Rat.le_of_lt hp),?_⟩
 have h1:=Rat.mul_le_mul_of_nonneg_right (rq_le (show b≤2^12 by omega)) (Rat.le_of_lt hp)
 have h2:=pw_unit 12
 rw[show-((12:Nat):Int)= -12 from rfl]at h2
 rw[h2]at h1
 exact h1
end Go.Proofs.YtffaefjkpipjnaaGreatDoor
namespace Go.Proofs.YtffaefjkpipjnaaGreatDoor
set_option maxRecDepth 100000
set_option linter.unusedVariables false
end Go.Proofs.YtffaefjkpipjnaaGreatDoor
namespace Go.Proofs.YtffaefjkpipjnaaGreatDoor
set_option maxRecDepth 100000
set_option linter.unusedVariables false
end Go.Proofs.YtffaefjkpipjnaaGreatDoor
namespace Go.Proofs.YtffaefjkpipjnaaGreatDoor
set_option maxRecDepth 100000
set_option linter.unusedVariables false
theorem floor_1024 {d:Dn}{s:Nat}(h1: -1024<qv d) (h2:qv d<1024):(floorU d s).natAbs≤1024*2^s:=by
 obtain⟨f1,f2⟩:=floor_val d s
 have hp:=pw_pos (s:Int)
 have g1:=Rat.mul_lt_mul_of_pos_right h1 hp
 have g2:=Rat.mul_lt_mul_of_pos_right h2 hp
 rw[pw_nat]at*
 have e:((1024*2^s:Nat):Rat)=1024*((2^s:Nat):Rat):=by rw[Rat.natCast_mul];rfl
 have i1:((floorU d s:Int):Rat)<(((1024*2^s:Nat):Int):Rat):=by
  show _<((1024*2^s:Nat):Rat)
  rw[e];grind
 have i2:((-((1024*2^s:Nat):Int)-1:Int):Rat)<((floorU d s:Int):Rat):=by
  have e2:((-((1024*2^s:Nat):Int)-1:Int):Rat)= -((1024*2^s:Nat):Rat)-1:=by
   rw[Rat.intCast_sub,Rat.intCast_neg];rfl
  rw[e2,e];grind
 have j1:=Rat.intCast_lt_intCast.1 i1
 have j2:=Rat.intCast_lt_intCast.1 i2
 omega
theorem split_1024 {l:Int}{s C D L:Nat}(hC:C=L+L) (hCD:C≤D) (h32:2^s≤32*L) (hL:0<L) (hl:l.natAbs≤1024*2^s):splitQ l C D≤16384:=by
 have hl2:l.natAbs≤16384*C:=by
  generalize 2^s=x at*
  omega
 unfold splitQ
 split
 ·exact cdiv_le_of (by omega) hl2
 ·exact Nat.div_le_of_le_mul (by rw[Nat.mul_comm];exact Nat.le_trans hl2 (Nat.mul_le_mul_left _ hCD))
structure ExpV (d lo hi:Dn) (s:Nat) (k:Int):Prop where
 x1:XL (-(qv d)) (qv lo) 1
 x2:XL (qv d) 1 (qv hi)
 b1:bareD lo=lo
 b2:bareD hi=hi
 le:qv lo≤qv hi
 z1:bitN lo.m≤20000∧-1000000000≤lo.e∧lo.e≤1001000000
 z2:bitN hi.m≤20000∧-1000000000≤hi.e∧hi.e≤1001000000
 ka:k.natAbs≤65536
 mid: -1024<qv d→qv d<1024→s≤300→k.natAbs≤16384∧Mid 20000 lo∧Mid 20000 hi
 low:pw k≤qv lo
 thin:qv hi-qv lo≤((8*s+131+3*k.natAbs*(2*s+128):Nat):Rat)*pw (-((s:Int)-k))
 mid2: -1024<qv d→qv d<1024→s≤8000→k.natAbs≤16384∧Mid 24900 lo∧Mid 24900 hi
theorem exp_le {v a b:Rat}(h1:XL (-v) a 1) (h2:XL v 1 b):a≤b:=by
 have h3:=h1.mul h2
 rw[show-v+v=0 by grind,Rat.mul_one,Rat.one_mul]at h3
 exact h3.zero_le
theorem exp_full {d:Dn}{s L H A B Le He m1 m2:Nat}{n1 n2:Bool}{f1 f2:Int}(s1:8≤s) (s2:s≤8900) (ht:d.m=0∨(bitN d.m:Int)-1+d.e<12) (o:AtOk 1 3 s L H) (hA:splitA (floorU d s) (L+L) (H+H)=(A:Int)) (hB:splitB (floorU d s) (ceilU d s) (L+L) (H+H)=(B:Int)) (hBS:B≤2^s) (oe:ExOk A B s Le He) (y1:bitN Le≤20000) (y2:bitN He≤20000)
 (qa:bareD ⟨false,Le,-((s:Int)-splitK (floorU d s) (L+L) (H+H))⟩=⟨n1,m1,f1⟩) (qb:bareD ⟨false,He,-((s:Int)-splitK (floorU d s) (L+L) (H+H))⟩=⟨n2,m2,f2⟩):
 ExpV d ⟨n1,m1,f1⟩ ⟨n2,m2,f2⟩ s (splitK (floorU d s) (L+L) (H+H)):=by
 have hCD:L+L≤H+H:=by have:=o.le;omega
 have hw:=o.wide
 obtain⟨h32,hL0⟩:=ln2_pos8 o s1
 have hk:(splitK (floorU d s) (L+L) (H+H)).natAbs≤65536:=by rw[splitQ_abs];exact split_sizes rfl hCD h32 hL0 (floor_small ht)
 obtain⟨x1,x2⟩:=exp_told s2 o hA hB hBS oe hk qa qb
 have hth:=exp_thin hCD (show H+H≤L+L+(2*s+128)by omega) (ceil_floor d s) hA hB oe
 have hsm: -1024<qv d→qv d<1024→(splitK (floorU d s) (L+L) (H+H)).natAbs≤16384:=fun v1 v2=>by rw[splitQ_abs];exact split_1024 rfl hCD h32 hL0 (floor_1024 v1 v2)
 have hshort:=oe.short
 have hle:=oe.le
 have hlow:=oe.low
 clear hA hB hBS o oe h32
 generalize splitK (floorU d s) (L+L) (H+H)=k at*
 have v1:=qv_bare (d:=⟨false,Le,-((s:Int)-k)⟩) (by dsimp only;omega) (by dsimp only;omega)
 have v2:=qv_bare (d:=⟨false,He,-((s:Int)-k)⟩) (by dsimp only;omega) (by dsimp only;omega)
 rw[qa,qv_pos]at v1
 rw[qb,qv_pos]at v2
 obtain⟨-,c1,c2⟩:=bareD_fits qa (Nat.le_trans y1 (by decide)) (by omega) (by omega)
 obtain⟨-,c3,c4⟩:=bareD_fits qb (Nat.le_trans y2 (by decide)) (by omega) (by omega)
 refine⟨x1,x2,bareD_again qa (by omega) (by omega),bareD_again qb (by omega) (by omega),exp_le x1 x2,⟨Nat.le_trans (bareD_bits qa) y1,c1,c2⟩,⟨Nat.le_trans (bareD_bits qb) y2,c3,c4⟩,hk,?_,?_,?_,?_⟩
 ·intro w1 w2 w3
  have hk2:=hsm w1 w2
  have hb:bitN He≤s+20:=by
   refine Nat.le_trans (bitN_mono hshort) (bitN_le.2 ?_)
   rw[Nat.mul_comm (s+4),Nat.pow_add]
   refine Nat.mul_lt_mul_of_pos_left (Nat.lt_of_le_of_lt (show s+4≤304 by omega) ?_) (Nat.two_pow_pos s)
   exact Nat.lt_of_lt_of_le (show 304<2^9 by decide) (Nat.pow_le_pow_right (by decide) (by decide))
  have hb1:bitN Le≤s+20:=Nat.le_trans (bitN_mono hle) hb
  have m1':Mid 20000 ⟨false,Le,-((s:Int)-k)⟩:=⟨by dsimp only;omega,by dsimp only;omega,by dsimp only;omega⟩
  have m2':Mid 20000 ⟨false,He,-((s:Int)-k)⟩:=⟨by dsimp only;omega,by dsimp only;omega,by dsimp only;omega⟩
  have b1:=(m1'.bare (by omega) (by omega)).1
  have b2:=(m2'.bare (by omega) (by omega)).1
  rw[qa]at b1
  rw[qb]at b2
  exact⟨hk2,b1,b2⟩
 ·rw[v1]
  have hp:=pw_pos (-((s:Int)-k))
  have h5:=Rat.mul_le_mul_of_nonneg_right (rq_le hlow) (Rat.le_of_lt hp)
  have e:((2^s:Nat):Rat)*pw (-((s:Int)-k))=pw k:=by
   rw[←pw_nat,←pw_add];congr 1;omega
  rw[e]at h5
  exact h5
 ·rw[v1,v2]
  have hp:=pw_pos (-((s:Int)-k))
  have h5:=rq_le hth
  rw[Rat.natCast_add]at h5
  have:=Rat.mul_le_mul_of_nonneg_right h5 (Rat.le_of_lt hp)
  grind
 ·intro w1 w2 w3
  have hk2:=hsm w1 w2
  have hb:bitN He≤s+30:=by
   refine Nat.le_trans (bitN_mono hshort) (bitN_le.2 ?_)
   rw[Nat.mul_comm (s+4),Nat.pow_add]
   refine Nat.mul_lt_mul_of_pos_left (Nat.lt_of_le_of_lt (show s+4≤8004 by omega) ?_) (Nat.two_pow_pos s)
   exact Nat.lt_of_lt_of_le (show 8004<2^13 by decide) (Nat.pow_le_pow_right (by decide) (by decide))
  have hb1:bitN Le≤s+30:=Nat.le_trans (bitN_mono hle) hb
  have m1':Mid 24900 ⟨false,Le,-((s:Int)-k)⟩:=⟨by dsimp only;omega,by dsimp only;omega,by dsimp only;omega⟩
  have m2':Mid 24900 ⟨false,He,-((s:Int)-k)⟩:=⟨by dsimp only;omega,by dsimp only;omega,by dsimp only;omega⟩
  have b1:=(m1'.bare (by omega) (by omega)).1
  have b2:=(m2'.bare (by omega) (by omega)).1
  rw[qa]at b1
  rw[qb]at b2
  exact⟨hk2,b1,b2⟩
end Go.Proofs.YtffaefjkpipjnaaGreatDoor
