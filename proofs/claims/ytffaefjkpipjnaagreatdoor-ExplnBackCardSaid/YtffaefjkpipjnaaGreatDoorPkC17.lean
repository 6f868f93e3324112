/- atanh of a fraction, plainly: the sum of its series, what the program's loop and the document's tell of it. Conditions: none. -/
import Derived.Test.YtffaefjkpipjnaaGreatDoorPkC01
namespace Go.Proofs.YtffaefjkpipjnaaGreatDoor
set_option maxRecDepth 100000
set_option linter.unusedVariables false
def atA (x:Rat):Nat→Rat
 |0=>0
 |K+1=>atA x K+x^(2*K+1)*((2*K+1:Nat):Rat)⁻¹
def atG (x:Rat):Nat→Nat→Rat
 |_,0=>0
 |m,j+1=>((2*m+1:Nat):Rat)⁻¹+x*x*atG x (m+1) j
theorem atA_succ (x:Rat) (K:Nat):atA x (K+1)=atA x K+x^(2*K+1)*((2*K+1:Nat):Rat)⁻¹:=rfl
theorem atG_zero (x:Rat) (m:Nat):atG x m 0=0:=by unfold atG;rfl
theorem atG_succ (x:Rat) (m j:Nat):atG x m (j+1)=((2*m+1:Nat):Rat)⁻¹+x*x*atG x (m+1) j:=by rw[atG]
section
variable {x:Rat}
theorem inv_le_one (m:Nat):((2*m+1:Nat):Rat)⁻¹≤1:=by
 have h:=rq_inv (2*m+1) (by omega)
 have hp:=rq_nat_pos (n:=2*m+1) (by omega)
 refine rq_cancel hp ?_
 have:=rq_le (show 1≤2*m+1 by omega)
 rw[h];grind
theorem atG_nonneg (h0:0≤x):∀(j m:Nat),0≤atG x m j
 |0,_=>by rw[atG_zero];exact Rat.le_refl
 |j+1,m=>by
  have h1:=rq_inv_nonneg (2*m+1)
  have h2:=Rat.mul_nonneg (Rat.mul_nonneg h0 h0) (atG_nonneg h0 j (m+1))
  rw[atG_succ]
  grind
theorem sq_third (h0:0≤x) (h1:3*x≤1):9*(x*x)≤1:=by
 have:=rq_mul_le (a:=3*x) (b:=1) (c:=3*x) (d:=1) (by grind) h1 (by grind) h1
 grind
theorem atG_le (h0:0≤x) (h1:3*x≤1):∀(j m:Nat),8*atG x m j≤9
 |0,_=>by rw[atG_zero];grind
 |j+1,m=>by
  have h3:=inv_le_one m
  have h4:=rq_mul_le (a:=9*(x*x)) (b:=1) (c:=8*atG x (m+1) j) (d:=9) (by have:=Rat.mul_nonneg h0 h0;grind) (sq_third h0 h1) (by have:=atG_nonneg h0 j (m+1);grind) (atG_le h0 h1 j (m+1))
  rw[atG_succ]
  grind
theorem atA_add:∀(j m:Nat),atA x (m+j)=atA x m+x^(2*m+1)*atG x m j
 |0,m=>by rw[atG_zero];simp only[Nat.add_zero];grind
 |j+1,m=>by
  have h:=atA_add j (m+1)
  rw[show m+(j+1)=m+1+j by omega,h]
  rw[atG_succ,atA_succ]
  rw[show 2*(m+1)+1=2*m+1+1+1 by omega,Rat.pow_succ x (2*m+1+1),Rat.pow_succ x (2*m+1)]
  grind
theorem atA_mono (h0:0≤x) {m n:Nat}(h:m≤n):atA x m≤atA x n:=by
 obtain⟨j,rfl⟩:=Nat.le.dest h
 have:=Rat.mul_nonneg (rq_pow_nonneg h0 (2*m+1)) (atG_nonneg h0 j m)
 rw[atA_add];grind
theorem atA_tail (h0:0≤x) (h1:3*x≤1) (m n:Nat):atA x n≤atA x m+2*x^(2*m+1):=by
 have hp:=rq_pow_nonneg h0 (2*m+1)
 rcases Nat.le_total n m with h|h
 ·have:=atA_mono h0 h;grind
 ·obtain⟨j,rfl⟩:=Nat.le.dest h
  have h2:=Rat.mul_le_mul_of_nonneg_left (atG_le h0 h1 j m) hp
  rw[atA_add];grind
end
structure Pr where
 lo:Nat
 hi:Nat
def Pr.times (p q:Pr) (S:Nat):Pr:=⟨p.lo*q.lo/S,cdiv (p.hi*q.hi) S⟩
def Pr.by (p:Pr) (n:Nat):Pr:=⟨p.lo/n,cdiv p.hi n⟩
def Pr.plus (p q:Pr):Pr:=⟨p.lo+q.lo,p.hi+q.hi⟩
def Pr.rest (p t:Pr):Pr:=⟨p.lo,p.hi+(t.hi+t.hi)⟩
def fracP (n d S:Nat):Pr:=⟨n*S/d,cdiv (n*S) d⟩
def atT (t q:Pr) (S:Nat):Nat→Pr
 |0=>t
 |k+1=>(atT t q S k).times q S
def atS (t q:Pr) (S:Nat):Nat→Pr
 |0=>⟨0,0⟩
 |k+1=>(atS t q S k).plus ((atT t q S k).by (2*k+1))
theorem atT_succ (t q:Pr) (S k:Nat):atT t q S (k+1)=(atT t q S k).times q S:=rfl
theorem atS_succ (t q:Pr) (S k:Nat):atS t q S (k+1)=(atS t q S k).plus ((atT t q S k).by (2*k+1)):=rfl
def atR (n d S N:Nat):Pr:=
 let t:=fracP n d S
 (atS t (t.times t S) S N).rest (atT t (t.times t S) S N)
section
variable {n d S:Nat}{x:Rat}
theorem frac_lo (hd:0<d) (hx:x*(d:Rat)=(n:Rat)):((fracP n d S).lo:Rat)≤S*x:=by
 refine rq_cancel (rq_nat_pos hd) (Rat.le_trans (rq_div_le _ _) ?_)
 rw[Rat.natCast_mul,←hx];grind
theorem frac_hi (hd:0<d) (hx:x*(d:Rat)=(n:Rat)):S*x≤((fracP n d S).hi:Rat):=by
 refine rq_cancel (rq_nat_pos hd) (Rat.le_trans ?_ (rq_cdiv_ge _ hd))
 rw[Rat.natCast_mul,←hx];grind
theorem times_lo {p q:Pr}{a b:Rat}(hS:0<S) (ha:(p.lo:Rat)≤S*a) (hb:(q.lo:Rat)≤S*b):((p.times q S).lo:Rat)≤S*(a*b):=by
 refine rq_cancel (rq_nat_pos hS) (Rat.le_trans (rq_div_le _ _) ?_)
 rw[Rat.natCast_mul]
 have:=rq_mul_le (rq_nat_nonneg p.lo) ha (rq_nat_nonneg q.lo) hb
 grind
theorem times_hi {p q:Pr}{a b:Rat}(hS:0<S) (a0:0≤a) (b0:0≤b) (ha:S*a≤(p.hi:Rat)) (hb:S*b≤(q.hi:Rat)):S*(a*b)≤((p.times q S).hi:Rat):=by
 refine rq_cancel (rq_nat_pos hS) (Rat.le_trans ?_ (rq_cdiv_ge _ hS))
 rw[Rat.natCast_mul]
 have s0:=rq_nat_nonneg S
 have:=rq_mul_le (Rat.mul_nonneg s0 a0) ha (Rat.mul_nonneg s0 b0) hb
 grind
theorem by_lo {p:Pr}{a:Rat}{m:Nat}(hm:0<m) (ha:(p.lo:Rat)≤S*a):((p.by m).lo:Rat)≤S*(a*((m:Nat):Rat)⁻¹):=by
 have hi:=rq_inv m hm
 refine rq_cancel (rq_nat_pos hm) (Rat.le_trans (rq_div_le _ _) ?_)
 rw[show(S:Rat)*(a*((m:Nat):Rat)⁻¹)*m=S*a*(((m:Nat):Rat)⁻¹*m)by grind,hi,Rat.mul_one]
 exact ha
theorem by_hi {p:Pr}{a:Rat}{m:Nat}(hm:0<m) (ha:S*a≤(p.hi:Rat)):S*(a*((m:Nat):Rat)⁻¹)≤((p.by m).hi:Rat):=by
 have hi:=rq_inv m hm
 refine rq_cancel (rq_nat_pos hm) (Rat.le_trans ?_ (rq_cdiv_ge _ hm))
 rw[show(S:Rat)*(a*((m:Nat):Rat)⁻¹)*m=S*a*(((m:Nat):Rat)⁻¹*m)by grind,hi,Rat.mul_one]
 exact ha
theorem atT_lo {t q:Pr}(hS:0<S) (ht:(t.lo:Rat)≤S*x) (hq:(q.lo:Rat)≤S*(x*x)):∀k,((atT t q S k).lo:Rat)≤S*x^(2*k+1)
 |0=>by simpa[atT]using ht
 |k+1=>by
  have h:=times_lo hS (atT_lo hS ht hq k) hq
  rw[show 2*(k+1)+1=2*k+1+1+1 by omega,Rat.pow_succ x (2*k+1+1),Rat.pow_succ x (2*k+1)]
  rw[atT_succ]
  grind
theorem atT_hi {t q:Pr}(hS:0<S) (h0:0≤x) (ht:S*x≤(t.hi:Rat)) (hq:S*(x*x)≤(q.hi:Rat)):∀k,S*x^(2*k+1)≤((atT t q S k).hi:Rat)
 |0=>by simpa[atT]using ht
 |k+1=>by
  have h:=times_hi hS (rq_pow_nonneg h0 (2*k+1)) (Rat.mul_nonneg h0 h0) (atT_hi hS h0 ht hq k) hq
  rw[show 2*(k+1)+1=2*k+1+1+1 by omega,Rat.pow_succ x (2*k+1+1),Rat.pow_succ x (2*k+1)]
  rw[atT_succ]
  grind
theorem atS_lo {t q:Pr}(hS:0<S) (ht:(t.lo:Rat)≤S*x) (hq:(q.lo:Rat)≤S*(x*x)):∀k,((atS t q S k).lo:Rat)≤S*atA x k
 |0=>by simp[atS,atA]
 |k+1=>by
  have h:=atS_lo hS ht hq k
  have h2:=by_lo (S:=S) (m:=2*k+1) (by omega) (atT_lo hS ht hq k)
  rw[atS_succ,atA_succ]
  simp only[Pr.plus,Rat.natCast_add]
  grind
theorem atS_hi {t q:Pr}(hS:0<S) (h0:0≤x) (ht:S*x≤(t.hi:Rat)) (hq:S*(x*x)≤(q.hi:Rat)):∀k,S*atA x k≤((atS t q S k).hi:Rat)
 |0=>by simp[atS,atA]
 |k+1=>by
  have h:=atS_hi hS h0 ht hq k
  have h2:=by_hi (S:=S) (m:=2*k+1) (by omega) (atT_hi hS h0 ht hq k)
  rw[atS_succ,atA_succ]
  simp only[Pr.plus,Rat.natCast_add]
  grind
theorem atR_lo (hS:0<S) (hd:0<d) (hx:x*(d:Rat)=(n:Rat)) (N:Nat):((atR n d S N).lo:Rat)≤S*atA x N:=
 atS_lo hS (frac_lo hd hx) (times_lo hS (frac_lo hd hx) (frac_lo hd hx)) N
theorem atR_hi (hS:0<S) (hd:0<d) (hx:x*(d:Rat)=(n:Rat)) (h0:0≤x) (h1:3*x≤1) (N K:Nat):S*atA x K≤((atR n d S N).hi:Rat):=by
 have ht:=frac_hi (S:=S) hd hx
 have hq:=times_hi hS h0 h0 ht ht
 have a:=atS_hi hS h0 ht hq N
 have b:=atT_hi hS h0 ht hq N
 have c:=Rat.mul_le_mul_of_nonneg_left (atA_tail h0 h1 N K) (rq_nat_nonneg S)
 unfold atR Pr.rest
 simp only[Rat.natCast_add]
 grind
theorem sq_thin {t:Pr}(hS:8≤S) (h3:3*t.lo≤S) (hw:t.hi≤t.lo+1):(t.times t S).hi≤(t.times t S).lo+2:=by
 have hp:0<S:=by omega
 have a:=cdiv_lt (t.hi*t.hi) hp
 have b:=lt_div' (t.lo*t.lo) hp
 unfold Pr.times
 simp only
 have c:t.hi*t.hi≤(t.lo+1)*(t.lo+1):=Nat.mul_le_mul hw hw
 have e:(t.lo+1)*(t.lo+1)=t.lo*t.lo+2*t.lo+1:=by grind
 have f:cdiv (t.hi*t.hi) S*S<(t.lo*t.lo/S+3)*S:=by rw[Nat.add_mul];omega
 have:=Nat.lt_of_mul_lt_mul_right f
 omega
theorem sq_small {t:Pr}(hS:0<S) (h3:3*t.lo≤S):9*(t.times t S).lo≤S:=by
 have a:=div_le' (t.lo*t.lo) S
 unfold Pr.times
 simp only
 have b:(3*t.lo)*(3*t.lo)≤S*S:=Nat.mul_le_mul h3 h3
 refine Nat.le_of_mul_le_mul_right (c:=S) ?_ hS
 grind
theorem atT_small {t q:Pr}(hS:0<S) (h3:3*t.lo≤S) (h9:9*q.lo≤S):∀k,3*9^k*(atT t q S k).lo≤S
 |0=>by simpa[atT]using h3
 |k+1=>by
  have ih:=atT_small hS h3 h9 k
  have a:=div_le' ((atT t q S k).lo*q.lo) S
  refine Nat.le_of_mul_le_mul_right (c:=S) ?_ hS
  rw[atT_succ]
  simp only[Pr.times]
  have b:=Nat.mul_le_mul ih h9
  have c:=Nat.mul_le_mul_left (3*9^(k+1)) a
  rw[Nat.pow_succ]at c⊢
  grind
theorem atT_thin {t q:Pr}(hS:8≤S) (h3:3*t.lo≤S) (h9:9*q.lo≤S) (ht:t.hi≤t.lo+1) (hq:q.hi≤q.lo+2):∀k,(atT t q S k).hi≤(atT t q S k).lo+3
 |0=>by simp only[atT];omega
 |k+1=>by
  have hp:0<S:=by omega
  have ih:=atT_thin hS h3 h9 ht hq k
  have h5:3*(atT t q S k).lo≤S:=by
   have:=atT_small hp h3 h9 k
   refine Nat.le_trans (Nat.mul_le_mul_right _ ?_) this
   have:=Nat.one_le_pow k 9 (by omega)
   omega
  rw[atT_succ]
  generalize atT t q S k=u at*
  have a:=cdiv_lt (u.hi*q.hi) hp
  have b:=lt_div' (u.lo*q.lo) hp
  unfold Pr.times
  simp only
  have c:u.hi*q.hi≤(u.lo+3)*(q.lo+2):=Nat.mul_le_mul ih hq
  have e:(u.lo+3)*(q.lo+2)=u.lo*q.lo+2*u.lo+3*q.lo+6:=by grind
  have f:cdiv (u.hi*q.hi) S*S<(u.lo*q.lo/S+4)*S:=by rw[Nat.add_mul];omega
  have:=Nat.lt_of_mul_lt_mul_right f
  omega
theorem by_thin {p:Pr}{m:Nat}(hm:3≤m) (h:p.hi≤p.lo+3):(p.by m).hi≤(p.by m).lo+2:=by
 have hp:0<m:=by omega
 have a:=cdiv_lt p.hi hp
 have b:=lt_div' p.lo hp
 unfold Pr.by
 simp only
 have f:cdiv p.hi m*m<(p.lo/m+3)*m:=by rw[Nat.add_mul];omega
 have:=Nat.lt_of_mul_lt_mul_right f
 omega
theorem times_le {p q:Pr}(hp:p.lo≤p.hi) (hq:q.lo≤q.hi):(p.times q S).lo≤(p.times q S).hi:=
 Nat.le_trans (Nat.div_le_div_right (Nat.mul_le_mul hp hq)) (div_le_cdiv _ _)
theorem by_le {p:Pr}{m:Nat}(hp:p.lo≤p.hi):(p.by m).lo≤(p.by m).hi:=Nat.le_trans (Nat.div_le_div_right hp) (div_le_cdiv _ _)
theorem atT_le {t q:Pr}(ht:t.lo≤t.hi) (hq:q.lo≤q.hi):∀k,(atT t q S k).lo≤(atT t q S k).hi
 |0=>ht
 |k+1=>times_le (atT_le ht hq k) hq
theorem atS_le {t q:Pr}(ht:t.lo≤t.hi) (hq:q.lo≤q.hi):∀k,(atS t q S k).lo≤(atS t q S k).hi
 |0=>Nat.le_refl _
 |k+1=>Nat.add_le_add (atS_le ht hq k) (by_le (atT_le ht hq k))
theorem atS_thin {t q:Pr}(hS:8≤S) (h3:3*t.lo≤S) (h9:9*q.lo≤S) (ht:t.hi≤t.lo+1) (hq:q.hi≤q.lo+2):∀k,(atS t q S k).hi≤(atS t q S k).lo+2*k
 |0=>by simp[atS]
 |1=>by
  simp only[atS,atT,Pr.plus,Pr.by,Nat.mul_zero,Nat.zero_add,Nat.div_one]
  have:=cdiv_le_of (a:=t.hi) (b:=1) (c:=t.hi) (by omega) (by omega)
  omega
 |k+2=>by
  have ih:=atS_thin hS h3 h9 ht hq (k+1)
  have:=by_thin (m:=2*(k+1)+1) (by omega) (atT_thin hS h3 h9 ht hq (k+1))
  rw[atS_succ]
  simp only[Pr.plus]
  omega
theorem frac_thin (hd:0<d):(fracP n d S).hi≤(fracP n d S).lo+1:=by
 unfold fracP cdiv;simp only;split<;>omega
theorem frac_le:(fracP n d S).lo≤(fracP n d S).hi:=div_le_cdiv _ _
theorem frac_third (hd:0<d) (h:3*n≤d):3*(fracP n d S).lo≤S:=by
 have a:=div_le' (n*S) d
 unfold fracP
 simp only
 refine Nat.le_of_mul_le_mul_right (c:=d) ?_ hd
 have:=Nat.mul_le_mul_right S h
 grind
theorem atT_rounds {s k:Nat}(hd:0<d) (h:3*n≤d) (hk:(atT (fracP n d (2^s)) ((fracP n d (2^s)).times (fracP n d (2^s)) (2^s)) (2^s) k).lo≠0):3*k+1≤s:=by
 have hS:0<2^s:=Nat.two_pow_pos s
 have h3:=frac_third (S:=2^s) hd h
 have:=atT_small hS h3 (sq_small hS h3) k
 have h1:3*9^k≤2^s:=Nat.le_trans (Nat.le_mul_of_pos_right _ (Nat.pos_of_ne_zero hk)) this
 have h2:2^(3*k+1)≤3*9^k:=by
  rw[Nat.pow_succ,Nat.pow_mul]
  have:(2^3)^k≤9^k:=Nat.pow_le_pow_left (by decide) k
  omega
 exact(Nat.pow_le_pow_iff_right (by omega)).1 (Nat.le_trans h2 h1)
theorem atR_wide {s N:Nat}(hs:8≤s) (hd:0<d) (h:3*n≤d) (hN:(atT (fracP n d (2^s)) ((fracP n d (2^s)).times (fracP n d (2^s)) (2^s)) (2^s) N).lo=0) (hr:3*N≤s+2):
 (atR n d (2^s) N).lo≤(atR n d (2^s) N).hi∧(atR n d (2^s) N).hi≤(atR n d (2^s) N).lo+(s+64):=by
 have hS:8≤2^s:=by have:=Nat.pow_le_pow_right (n:=2) (by omega) hs;omega
 have hp:0<2^s:=by omega
 generalize hSd:2^s=S at*
 have h3:=frac_third (S:=S) hd h
 have h9:=sq_small hp h3
 have t1:=frac_thin (n:=n) (S:=S) hd
 have q1:=sq_thin hS h3 t1
 have a:=atS_thin hS h3 h9 t1 q1 N
 have b:=atT_thin hS h3 h9 t1 q1 N
 have c:=atS_le (S:=S) frac_le (times_le (S:=S) frac_le frac_le) N (t:=fracP n d S) (q:=(fracP n d S).times (fracP n d S) S)
 unfold atR Pr.rest
 simp only
 omega
end
structure AtOk (A B s L H:Nat):Prop where
 le:L≤H
 wide:H≤L+(s+64)
 lo:∀x:Rat,x*(B:Rat)=(A:Rat)→0≤x→(L:Rat)≤((2^s:Nat):Rat)*atA x s
 hi:∀x:Rat,x*(B:Rat)=(A:Rat)→0≤x→3*x≤1→∀K,((2^s:Nat):Rat)*atA x K≤(H:Rat)
 short:L≤s*2^s
theorem atA_zero:∀K,atA 0 K=0
 |0=>rfl
 |K+1=>by rw[atA_succ,atA_zero K,Rat.pow_succ];grind
theorem rq_zero {x:Rat}{B:Nat}(hB:B≠0) (h:x*(B:Rat)=((0:Nat):Rat)):x=0:=by
 have hp:=rq_nat_pos (Nat.pos_of_ne_zero hB)
 refine Rat.le_antisymm (rq_cancel hp ?_) (rq_cancel hp ?_)
 ·rw[h];simp
 ·rw[h];simp
theorem atOk_zero {B s:Nat}(hB:B≠0):AtOk 0 B s 0 0:=by
 refine⟨Nat.le_refl _,by omega,fun x hx _=>?_,fun x hx _ _ K=>?_,Nat.zero_le _⟩
 ·rw[rq_zero hB hx,atA_zero];simp
 ·rw[rq_zero hB hx,atA_zero];simp
section
variable {n d S:Nat}
theorem atS_short {t q:Pr}(hS:0<S) (h3:3*t.lo≤S) (h9:9*q.lo≤S):∀k,(atS t q S k).lo≤k*S
 |0=>by simp[atS]
 |k+1=>by
  have h1:=atS_short hS h3 h9 k
  have h2:=atT_small hS h3 h9 k
  have h4:(atT t q S k).lo≤S:=by
   refine Nat.le_trans (Nat.le_mul_of_pos_left _ ?_) h2
   have:=Nat.one_le_pow k 9 (by omega);omega
  have h5:(atT t q S k).lo/(2*k+1)≤S:=Nat.le_trans (Nat.div_le_self _ _) h4
  rw[atS_succ,Nat.add_mul]
  simp only[Pr.plus,Pr.by]
  omega
theorem atR_ok {s N:Nat}(hs:8≤s) (hd:0<d) (h:3*n≤d) (hN:(atT (fracP n d (2^s)) ((fracP n d (2^s)).times (fracP n d (2^s)) (2^s)) (2^s) N).lo=0) (hr:3*N≤s+2):
 AtOk n d s (atR n d (2^s) N).lo (atR n d (2^s) N).hi:=by
 have hS:0<2^s:=Nat.two_pow_pos s
 obtain⟨w1,w2⟩:=atR_wide hs hd h hN hr
 have h3:=frac_third (S:=2^s) hd h
 refine⟨w1,w2,fun x hx h0=>?_,fun x hx h0 h1 K=>atR_hi hS hd hx h0 h1 N K,?_⟩
 ·refine Rat.le_trans (atR_lo hS hd hx N) (Rat.mul_le_mul_of_nonneg_left (atA_mono h0 (by omega)) (rq_nat_nonneg _))
 ·exact Nat.le_trans (atS_short hS h3 (sq_small hS h3) N) (Nat.mul_le_mul_right _ (by omega))
end
def refH (R q M:Nat):Nat→Nat
 |0=>0
 |j+1=>R/(2*(M-j)+1)+refH R q M j*q/R
theorem refH_succ (R q M j:Nat):refH R q M (j+1)=R/(2*(M-j)+1)+refH R q M j*q/R:=rfl
def refAt (n d R M:Nat):Nat:=
 let r:=n*R/d
 refH R (r*r/R) M (M+1)*r/R
section
variable {n d R M:Nat}{x:Rat}
theorem refH_le {q:Nat}(hR:0<R) (h0:0≤x) (hq:(q:Rat)≤R*(x*x)):∀j,j≤M+1→(refH R q M j:Rat)≤R*atG x (M+1-j) j
 |0,_=>by rw[atG_zero];simp[refH]
 |j+1,hj=>by
  have ih:=refH_le hR h0 hq j (by omega)
  have h1:((R/(2*(M-j)+1):Nat):Rat)≤R*((2*(M-j)+1:Nat):Rat)⁻¹:=by
   have hi:=rq_inv (2*(M-j)+1) (by omega)
   refine rq_cancel (rq_nat_pos (n:=2*(M-j)+1) (by omega)) (Rat.le_trans (rq_div_le _ _) ?_)
   rw[Rat.mul_assoc,hi,Rat.mul_one]
   exact Rat.le_refl
  have h2:((refH R q M j*q/R:Nat):Rat)≤R*(x*x*atG x (M+1-j) j):=by
   refine rq_cancel (rq_nat_pos hR) (Rat.le_trans (rq_div_le _ _) ?_)
   rw[Rat.natCast_mul]
   have:=rq_mul_le (rq_nat_nonneg _) ih (rq_nat_nonneg q) hq
   grind
  rw[refH_succ,show M+1-(j+1)=M-j by omega]
  rw[atG_succ,Rat.natCast_add,show M-j+1=M+1-j by omega]
  grind
theorem refH_ge {q:Nat}(hR:0<R) (h0:0≤x) (h1:3*x≤1) (hq:R*(x*x)≤(q:Rat)+2) (hq1:(q:Rat)≤R*(x*x)):∀j,j≤M+1→R*atG x (M+1-j) j≤(refH R q M j:Rat)+6
 |0,_=>by rw[atG_zero];simp[refH];grind
 |j+1,hj=>by
  have ih:=refH_ge hR h0 h1 hq hq1 j (by omega)
  have up:=refH_le (M:=M) hR h0 hq1 j (by omega)
  have g1:=atG_le h0 h1 j (M+1-j)
  have g0:=atG_nonneg h0 j (M+1-j)
  have h2:R*((2*(M-j)+1:Nat):Rat)⁻¹≤((R/(2*(M-j)+1):Nat):Rat)+1:=by
   have hi:=rq_inv (2*(M-j)+1) (by omega)
   have hp:=rq_nat_pos (n:=2*(M-j)+1) (by omega)
   refine rq_cancel hp ?_
   have:=rq_lt_div R (b:=2*(M-j)+1) (by omega)
   rw[Rat.mul_assoc,hi,Rat.mul_one]
   grind
  have h3:R*(x*x*atG x (M+1-j) j)≤((refH R q M j*q/R:Nat):Rat)+4:=by
   have hp:=rq_nat_pos hR
   refine rq_cancel hp ?_
   have a:=rq_lt_div (refH R q M j*q) hR
   rw[Rat.natCast_mul]at a
   generalize atG x (M+1-j) j=g at*
   generalize ((refH R q M j:Nat):Rat)=u at*
   generalize ((refH R q M j*q/R:Nat):Rat)=z at*
   have q0:0≤R*(x*x):=Rat.mul_nonneg (rq_nat_nonneg R) (Rat.mul_nonneg h0 h0)
   have b:=Rat.mul_le_mul_of_nonneg_right ih q0
   have c:=sq_third h0 h1
   have rg:(R:Rat)*(8*g)≤R*9:=Rat.mul_le_mul_of_nonneg_left g1 (rq_nat_nonneg R)
   have rc:(R:Rat)*(9*(x*x))≤R*1:=Rat.mul_le_mul_of_nonneg_left c (rq_nat_nonneg R)
   have e:=Rat.mul_le_mul_of_nonneg_left hq (show 0≤R*g from Rat.mul_nonneg (rq_nat_nonneg R) g0)
   have f:=Rat.mul_le_mul_of_nonneg_right ih (rq_nat_nonneg q)
   grind
  rw[refH_succ,show M+1-(j+1)=M-j by omega]
  rw[atG_succ,Rat.natCast_add,show M-j+1=M+1-j by omega]
  grind
theorem refAt_le (hR:0<R) (hd:0<d) (hx:x*(d:Rat)=(n:Rat)) (h0:0≤x):((refAt n d R M:Nat):Rat)≤R*atA x (M+1):=by
 have hr:((n*R/d:Nat):Rat)≤R*x:=frac_lo (S:=R) hd hx
 have hq:=times_lo (p:=⟨n*R/d,0⟩) (q:=⟨n*R/d,0⟩) hR hr hr
 have hh:=refH_le (M:=M) hR h0 hq (M+1) (Nat.le_refl _)
 have ha:=atA_add (x:=x) (M+1) 0
 rw[Nat.sub_self]at hh
 simp only[Nat.zero_add,Nat.mul_zero,Rat.pow_one]at ha
 rw[show atA x 0=0 from rfl]at ha
 unfold refAt
 refine rq_cancel (rq_nat_pos hR) (Rat.le_trans (rq_div_le _ _) ?_)
 rw[Rat.natCast_mul]
 have:=rq_mul_le (rq_nat_nonneg _) hh (rq_nat_nonneg _) hr
 simp only[Pr.times]at this
 rw[ha,show(R:Rat)*(0+x*atG x 0 (M+1))*R=R*atG x 0 (M+1)*(R*x)by grind]
 exact this
theorem refAt_ge (hR:0<R) (hd:0<d) (hx:x*(d:Rat)=(n:Rat)) (h0:0≤x) (h1:3*x≤1):R*atA x (M+1)≤((refAt n d R M:Nat):Rat)+6:=by
 have hp:=rq_nat_pos hR
 have hr:((n*R/d:Nat):Rat)≤R*x:=frac_lo (S:=R) hd hx
 have hr2:R*x≤((n*R/d:Nat):Rat)+1:=by
  refine rq_cancel (rq_nat_pos hd) ?_
  have:=rq_lt_div (n*R) hd
  rw[Rat.natCast_mul]at this
  grind
 have hq:=times_lo (p:=⟨n*R/d,0⟩) (q:=⟨n*R/d,0⟩) hR hr hr
 simp only[Pr.times]at hq
 unfold refAt
 simp only
 generalize n*R/d=r at*
 have rr:=rq_nat_nonneg r
 have hq2:R*(x*x)≤((r*r/R:Nat):Rat)+2:=by
  refine rq_cancel hp ?_
  have a:=rq_lt_div (r*r) hR
  rw[Rat.natCast_mul]at a
  have b:=Rat.mul_le_mul_of_nonneg_left hr2 (show 0≤R*x from Rat.mul_nonneg (rq_nat_nonneg R) h0)
  have c:=Rat.mul_le_mul_of_nonneg_right hr2 rr
  have e:=Rat.mul_le_mul_of_nonneg_left h1 (rq_nat_nonneg R)
  grind
 have hh:=refH_ge (M:=M) hR h0 h1 hq2 hq (M+1) (Nat.le_refl _)
 have g1:=atG_le h0 h1 (M+1) 0
 have g0:=atG_nonneg h0 (M+1) 0
 have ha:=atA_add (x:=x) (M+1) 0
 rw[Nat.sub_self]at hh
 simp only[Nat.zero_add,Nat.mul_zero,Rat.pow_one]at ha
 rw[show atA x 0=0 from rfl]at ha
 refine rq_cancel hp ?_
 have a:=rq_lt_div (refH R (r*r/R) M (M+1)*r) hR
 rw[Rat.natCast_mul]at a
 rw[ha]
 generalize ((refH R (r*r/R) M (M+1):Nat):Rat)=u at*
 generalize ((refH R (r*r/R) M (M+1)*r/R:Nat):Rat)=z at*
 generalize atG x 0 (M+1)=g at*
 have e:=Rat.mul_le_mul_of_nonneg_left hr2 (show 0≤R*g from Rat.mul_nonneg (rq_nat_nonneg R) g0)
 have f:=Rat.mul_le_mul_of_nonneg_right hh rr
 have i:=Rat.mul_le_mul_of_nonneg_left h1 (rq_nat_nonneg R)
 have k:=Rat.mul_le_mul_of_nonneg_left g1 (rq_nat_nonneg R)
 grind
end
end Go.Proofs.YtffaefjkpipjnaaGreatDoor
namespace Go.Proofs.YtffaefjkpipjnaaGreatDoor
set_option maxRecDepth 100000
set_option linter.unusedVariables false
theorem pow_eighth {x:Rat}(h0:0≤x) (h1:3*x≤1):∀k,0≤x^(2*k+1)∧((8^k:Nat):Rat)*x^(2*k+1)≤1
 |0=>by
  have e:x^(2*0+1)=x:=by rw[Rat.pow_succ];simp
  rw[e]
  refine⟨h0,?_⟩
  have:((8^0:Nat):Rat)=1:=rfl
  rw[this]
  grind
 |k+1=>by
  obtain⟨p0,p1⟩:=pow_eighth h0 h1 k
  have h9:=sq_third h0 h1
  have e:x^(2*(k+1)+1)=x^(2*k+1)*(x*x):=by
   rw[show 2*(k+1)+1=2*k+1+1+1 by omega,Rat.pow_succ,Rat.pow_succ,Rat.mul_assoc]
  have e8:((8^(k+1):Nat):Rat)=((8^k:Nat):Rat)*8:=by rw[Nat.pow_succ,Rat.natCast_mul];rfl
  have q0:0≤x*x:=Rat.mul_nonneg h0 h0
  rw[e,e8]
  have c0:(0:Rat)≤((8^k:Nat):Rat):=rq_nat_nonneg _
  generalize x^(2*k+1)=p at*
  generalize ((8^k:Nat):Rat)=c at*
  generalize x*x=y at*
  refine⟨Rat.mul_nonneg p0 q0,?_⟩
  have e2:c*8*(p*y)=(c*p)*(8*y):=by grind
  have h8:8*y≤1:=by grind
  have g1:(c*p)*(8*y)≤(c*p)*1:=Rat.mul_le_mul_of_nonneg_left h8 (Rat.mul_nonneg c0 p0)
  rw[e2]
  grind
end Go.Proofs.YtffaefjkpipjnaaGreatDoor
namespace Go.Proofs.YtffaefjkpipjnaaGreatDoor
set_option maxRecDepth 100000
set_option linter.unusedVariables false
def exT (x:Rat):Nat→Rat
 |0=>1
 |k+1=>exT x k*x*((k+1:Nat):Rat)⁻¹
def exA (x:Rat):Nat→Rat
 |0=>0
 |K+1=>exA x K+exT x K
theorem exT_succ (x:Rat) (k:Nat):exT x (k+1)=exT x k*x*((k+1:Nat):Rat)⁻¹:=rfl
theorem exA_succ (x:Rat) (K:Nat):exA x (K+1)=exA x K+exT x K:=rfl
def exP (X:Pr) (S:Nat):Nat→Pr
 |0=>⟨S,S⟩
 |k+1=>((exP X S k).times X S).by (k+1)
def exS (X:Pr) (S:Nat):Nat→Pr
 |0=>⟨S,S⟩
 |k+1=>(exS X S k).plus (exP X S (k+1))
theorem exP_succ (X:Pr) (S k:Nat):exP X S (k+1)=((exP X S k).times X S).by (k+1):=rfl
theorem exS_succ (X:Pr) (S k:Nat):exS X S (k+1)=(exS X S k).plus (exP X S (k+1)):=rfl
section
variable {X:Pr}{S:Nat}{x:Rat}
theorem exT_nonneg (h0:0≤x):∀k,0≤exT x k
 |0=>by show(0:Rat)≤1;decide
 |k+1=>by
  rw[exT_succ]
  exact Rat.mul_nonneg (Rat.mul_nonneg (exT_nonneg h0 k) h0) (Rat.le_of_lt (Rat.inv_pos.2 (rq_nat_pos (Nat.succ_pos k))))
theorem exP_lo (hS:0<S) (h:(X.lo:Rat)≤S*x):∀k,((exP X S k).lo:Rat)≤S*exT x k
 |0=>by
  show(S:Rat)≤S*1
  rw[Rat.mul_one];exact Rat.le_refl
 |k+1=>by
  rw[exP_succ,exT_succ]
  exact by_lo (Nat.succ_pos k) (times_lo hS (exP_lo hS h k) h)
theorem exP_hi (hS:0<S) (h0:0≤x) (h:S*x≤(X.hi:Rat)):∀k,S*exT x k≤((exP X S k).hi:Rat)
 |0=>by
  show(S:Rat)*1≤S
  rw[Rat.mul_one];exact Rat.le_refl
 |k+1=>by
  rw[exP_succ,exT_succ]
  exact by_hi (Nat.succ_pos k) (times_hi hS (exT_nonneg h0 k) h0 (exP_hi hS h0 h k) h)
theorem exS_lo (hS:0<S) (h:(X.lo:Rat)≤S*x):∀k,((exS X S k).lo:Rat)≤S*exA x (k+1)
 |0=>by
  have e:exA x (0+1)=1:=by rw[exA_succ];exact Rat.zero_add 1
  rw[e,Rat.mul_one]
  exact Rat.le_refl
 |k+1=>by
  rw[exS_succ,exA_succ,Rat.mul_add]
  show(((exS X S k).lo+(exP X S (k+1)).lo:Nat):Rat)≤_
  rw[Rat.natCast_add]
  have h1:=exS_lo hS h k
  have h2:=exP_lo hS h (k+1)
  generalize (S:Rat)*exA x (k+1)=a at*
  generalize (S:Rat)*exT x (k+1)=b at*
  grind
theorem exS_hi (hS:0<S) (h0:0≤x) (h:S*x≤(X.hi:Rat)):∀k,S*exA x (k+1)≤((exS X S k).hi:Rat)
 |0=>by
  have e:exA x (0+1)=1:=by rw[exA_succ];exact Rat.zero_add 1
  rw[e,Rat.mul_one]
  exact Rat.le_refl
 |k+1=>by
  rw[exS_succ,exA_succ,Rat.mul_add]
  show _≤(((exS X S k).hi+(exP X S (k+1)).hi:Nat):Rat)
  rw[Rat.natCast_add]
  have h1:=exS_hi hS h0 h k
  have h2:=exP_hi hS h0 h (k+1)
  generalize (S:Rat)*exA x (k+1)=a at*
  generalize (S:Rat)*exT x (k+1)=b at*
  grind
theorem exP_le (hX:X.lo≤X.hi):∀k,(exP X S k).lo≤(exP X S k).hi
 |0=>Nat.le_refl _
 |k+1=>by rw[exP_succ];exact by_le (times_le (exP_le hX k) hX)
theorem exS_le (hX:X.lo≤X.hi):∀k,(exS X S k).lo≤(exS X S k).hi
 |0=>Nat.le_refl _
 |k+1=>by rw[exS_succ];exact Nat.add_le_add (exS_le hX k) (exP_le hX (k+1))
theorem exP_down (hS:0<S) (hX:X.hi≤S) (k:Nat):(exP X S (k+1)).hi≤cdiv (exP X S k).hi (k+1):=by
 rw[exP_succ]
 show cdiv (cdiv ((exP X S k).hi*X.hi) S) (k+1)≤_
 have h1:cdiv ((exP X S k).hi*X.hi) S≤(exP X S k).hi:=cdiv_le_of hS (Nat.mul_le_mul_left _ hX)
 refine cdiv_le_of (Nat.succ_pos k) (Nat.le_trans h1 ?_)
 exact cdiv_ge _ (Nat.succ_pos k)
theorem exP_small (hS:0<S) (hX:X.hi≤S):∀k,(exP X S k).hi≤S
 |0=>Nat.le_refl _
 |k+1=>Nat.le_trans (exP_down hS hX k) (cdiv_le_of (Nat.succ_pos k) (Nat.le_trans (exP_small hS hX k) (Nat.le_mul_of_pos_right _ (Nat.succ_pos k))))
theorem exS_small (hS:0<S) (hX:X.hi≤S):∀k,(exS X S k).hi≤(k+1)*S
 |0=>by rw[Nat.zero_add,Nat.one_mul];exact Nat.le_refl _
 |k+1=>by
  rw[exS_succ,Nat.add_mul (k+1) 1,Nat.one_mul]
  exact Nat.add_le_add (exS_small hS hX k) (exP_small hS hX (k+1))
theorem exP_rounds {s:Nat}(hX:X.hi≤2^s):∀k,k≤s→(exP X (2^s) (k+1)).hi≤2^(s-k)
 |0,_=>exP_small (Nat.two_pow_pos s) hX 1
 |k+1,hk=>by
  refine Nat.le_trans (exP_down (Nat.two_pow_pos s) hX (k+1)) (cdiv_le_of (Nat.succ_pos _) (Nat.le_trans (exP_rounds hX k (by omega)) ?_))
  have e:s-k=s-(k+1)+1:=by omega
  rw[e,Nat.pow_succ]
  exact Nat.mul_le_mul_left _ (by omega)
theorem exP_end {s k:Nat}(hX:X.hi≤2^s) (h:1<(exP X (2^s) (k+1)).hi):k+1≤s:=by
 rcases Nat.lt_or_ge k s with h1|h1
 ·exact h1
 ·exfalso
  have h2:∀j,(exP X (2^s) (s+1+j)).hi≤1:=by
   intro j
   induction j with
   |zero=>have:=exP_rounds hX s (Nat.le_refl s);rwa [Nat.sub_self]at this
   |succ j ih=>exact Nat.le_trans (exP_down (Nat.two_pow_pos s) hX (s+1+j)) (cdiv_le_of (Nat.succ_pos _) (Nat.le_trans ih (by omega)))
  have h3:=h2 (k-s)
  rw[show s+1+(k-s)=k+1 by omega]at h3
  omega
theorem times_thin {p X:Pr}{d:Nat}(hS:0<S) (he:X.lo=X.hi) (hX:X.hi≤S) (h:p.hi≤p.lo+d):(p.times X S).hi≤(p.times X S).lo+(d+1):=by
 show cdiv (p.hi*X.hi) S≤p.lo*X.lo/S+(d+1)
 rw[he]
 refine cdiv_le_of hS ?_
 have h1:p.hi*X.hi≤p.lo*X.hi+d*S:=by
  refine Nat.le_trans (Nat.mul_le_mul_right _ h) ?_
  rw[Nat.add_mul]
  exact Nat.add_le_add_left (Nat.mul_le_mul_left _ hX) _
 have h2:p.lo*X.hi<(p.lo*X.hi/S+1)*S:=by have:=Nat.lt_mul_div_succ (p.lo*X.hi) hS;rwa [Nat.mul_comm S]at this
 rw[Nat.add_mul]at h2⊢
 rw[Nat.add_mul d 1]
 omega
theorem by_thin2 {p:Pr}(h:p.hi≤p.lo+3):(p.by 2).hi≤(p.by 2).lo+2:=cdiv_le_of (by omega) (by show p.hi≤(p.lo/2+2)*2;omega)
theorem exP_thin (hS:0<S) (he:X.lo=X.hi) (hX:X.hi≤S):∀k,(exP X S k).hi≤(exP X S k).lo+2
 |0=>by show S≤S+2;omega
 |1=>by
  have h1:=times_thin (p:=⟨S,S⟩) (d:=0) hS he hX (Nat.le_refl _)
  rw[exP_succ]
  refine cdiv_le_of (by omega) ?_
  show _≤(_/1+2)*1
  rw[Nat.div_one,Nat.mul_one]
  exact Nat.le_trans h1 (Nat.add_le_add_left (by omega) _)
 |k+2=>by
  have h1:=times_thin (p:=exP X S (k+1)) hS he hX (exP_thin hS he hX (k+1))
  rw[exP_succ]
  by_cases h0:k=0
  ·subst h0;exact by_thin2 h1
  ·exact by_thin (by omega) h1
theorem exS_thin (hS:0<S) (he:X.lo=X.hi) (hX:X.hi≤S):∀k,(exS X S k).hi≤(exS X S k).lo+2*k
 |0=>Nat.le_refl _
 |k+1=>by
  have h1:=exS_thin hS he hX k
  have h2:=exP_thin hS he hX (k+1)
  rw[exS_succ]
  show(exS X S k).hi+(exP X S (k+1)).hi≤(exS X S k).lo+(exP X S (k+1)).lo+2*(k+1)
  omega
end
end Go.Proofs.YtffaefjkpipjnaaGreatDoor
namespace Go.Proofs.YtffaefjkpipjnaaGreatDoor
set_option maxRecDepth 100000
set_option linter.unusedVariables false
theorem inv_half {m:Nat}(hm:1≤m):0≤((m+1:Nat):Rat)⁻¹∧2*((m+1:Nat):Rat)⁻¹≤1:=by
 have hp:(0:Rat)<((m+1:Nat):Rat):=rq_nat_pos (Nat.succ_pos m)
 have hi:(0:Rat)≤((m+1:Nat):Rat)⁻¹:=Rat.le_of_lt (Rat.inv_pos.2 hp)
 have h2:((2:Nat):Rat)≤((m+1:Nat):Rat):=Rat.natCast_le_natCast.2 (by omega)
 have h3:=Rat.mul_le_mul_of_nonneg_right h2 hi
 rw[Rat.mul_inv_cancel _ (fun e=>by rw[e]at hp;exact absurd hp (Rat.lt_irrefl))]at h3
 exact⟨hi,h3⟩
theorem exT_half {x:Rat}(h0:0≤x) (h1:x≤1) {m:Nat}(hm:1≤m):2*exT x (m+1)≤exT x m:=by
 obtain⟨i0,i2⟩:=inv_half hm
 have t0:=exT_nonneg h0 m
 rw[exT_succ]
 generalize exT x m=t at*
 generalize ((m+1:Nat):Rat)⁻¹=i at*
 have e:2*(t*x*i)=(t*x)*(2*i):=by grind
 have a1:=Rat.mul_le_mul_of_nonneg_left i2 (Rat.mul_nonneg t0 h0)
 have a2:=Rat.mul_le_mul_of_nonneg_left h1 t0
 rw[e]
 rw[Rat.mul_one]at a1 a2
 exact Rat.le_trans a1 a2
theorem exA_tail {x:Rat}(h0:0≤x) (h1:x≤1) {k:Nat}(hk:1≤k):∀j,exA x (k+1+j)+exT x (k+j)≤exA x (k+1)+exT x k
 |0=>Rat.le_refl
 |j+1=>by
  have h2:=exA_tail h0 h1 hk j
  have h3:=exT_half h0 h1 (show 1≤k+j by omega)
  rw[show k+1+(j+1)=(k+1+j)+1 by omega,exA_succ,show k+(j+1)=k+j+1 by omega,show k+1+j=k+j+1 by omega]
  rw[show k+1+j=k+j+1 by omega]at h2
  generalize exA x (k+j+1)=a at*
  generalize exT x (k+j+1)=b at*
  generalize exT x (k+j)=c at*
  generalize exA x (k+1)+exT x k=d at*
  grind
theorem exA_mono {x:Rat}(h0:0≤x) {m:Nat}:∀j,exA x m≤exA x (m+j)
 |0=>Rat.le_refl
 |j+1=>by
  have h1:=exA_mono (m:=m) h0 j
  have h2:=exT_nonneg h0 (m+j)
  rw[show m+(j+1)=m+j+1 by omega,exA_succ]
  generalize exA x (m+j)=a at*
  generalize exT x (m+j)=b at*
  generalize exA x m=c at*
  grind
theorem exA_bound {x:Rat}(h0:0≤x) (h1:x≤1) {k:Nat}(hk:1≤k) (K:Nat):exA x K≤exA x (k+1)+exT x k:=by
 have t0:=exT_nonneg h0 k
 rcases Nat.le_total K (k+1)with h|h
 ·obtain⟨j,hj⟩:∃j,k+1=K+j:=⟨k+1-K,by omega⟩
  have h2:=exA_mono (m:=K) h0 j
  rw[hj]
  grind
 ·obtain⟨j,rfl⟩:∃j,K=k+1+j:=⟨K-(k+1),by omega⟩
  have h2:=exA_tail h0 h1 hk j
  have h3:=exT_nonneg h0 (k+j)
  grind
end Go.Proofs.YtffaefjkpipjnaaGreatDoor
namespace Go.Proofs.YtffaefjkpipjnaaGreatDoor
set_option maxRecDepth 100000
set_option linter.unusedVariables false
section
variable {X:Pr}{S:Nat}
theorem step_wide {p:Pr}{n:Nat}(hS:0<S) (hn:0<n):
 ((((p.times X S).by n).hi:Rat)-(((p.times X S).by n).lo:Rat))*(n:Rat)*(S:Rat)≤((p.hi:Rat)*(X.hi:Rat)-(p.lo:Rat)*(X.lo:Rat))+2*(S:Rat)+2*(n:Rat)*(S:Rat):=by
 have a1:=rq_cdiv_lt (p.hi*X.hi) hS
 have a2:=rq_lt_div (p.lo*X.lo) hS
 have a3:=rq_cdiv_lt (cdiv (p.hi*X.hi) S) hn
 have a4:=rq_lt_div (p.lo*X.lo/S) hn
 rw[Rat.natCast_mul]at a1 a2
 have e1:((p.times X S).by n).hi=cdiv (cdiv (p.hi*X.hi) S) n:=rfl
 have e2:((p.times X S).by n).lo=p.lo*X.lo/S/n:=rfl
 rw[e1,e2]
 have hSp:=rq_nat_pos hS
 have a5:=Rat.mul_le_mul_of_nonneg_right a3 (Rat.le_of_lt hSp)
 have a6:=Rat.mul_le_mul_of_nonneg_right a4 (Rat.le_of_lt hSp)
 generalize ((cdiv (cdiv (p.hi*X.hi) S) n:Nat):Rat)=H at*
 generalize ((p.lo*X.lo/S/n:Nat):Rat)=L at*
 generalize ((cdiv (p.hi*X.hi) S:Nat):Rat)=h at*
 generalize ((p.lo*X.lo/S:Nat):Rat)=l at*
 grind
theorem exP_one (hS:0<S):(exP X S 1).hi=X.hi∧(exP X S 1).lo=X.lo:=by
 have e1:(exP X S 1).hi=cdiv (cdiv (S*X.hi) S) 1:=rfl
 have e2:(exP X S 1).lo=S*X.lo/S/1:=rfl
 rw[e1,e2]
 have c1:∀a:Nat,cdiv a 1=a:=fun a=>by unfold cdiv;simp[Nat.mod_one]
 have c2:cdiv (S*X.hi) S=X.hi:=by unfold cdiv;rw[Nat.mul_mod_right,Nat.mul_div_cancel_left _ hS];simp
 rw[c1,c2,Nat.div_one,Nat.mul_div_cancel_left _ hS]
 exact⟨rfl,rfl⟩
theorem exP_wide {s:Nat}(hAB:X.lo≤X.hi) (hX:X.hi≤2^s):∀j,j≤s→
 (((exP X (2^s) (j+2)).hi:Rat)-((exP X (2^s) (j+2)).lo:Rat))*((2^j:Nat):Rat)≤((X.hi:Rat)-(X.lo:Rat))+4*((2^j:Nat):Rat)
 |0,_=>by
  have hS:=Nat.two_pow_pos s
  have h:=step_wide (X:=X) (p:=exP X (2^s) 1) (n:=2) hS (by decide)
  obtain⟨e1,e2⟩:=exP_one (X:=X) hS
  rw[e1,e2]at h
  rw[show((2^0:Nat):Rat)=1 from rfl]
  rw[show exP X (2^s) (0+2)=((exP X (2^s) 1).times X (2^s)).by 2 from rfl]
  have hSp:=rq_nat_pos hS
  have q1:=rq_le hAB
  have q2:=rq_le hX
  generalize ((((exP X (2^s) 1).times X (2^s)).by 2).hi:Rat)=H at*
  generalize ((((exP X (2^s) 1).times X (2^s)).by 2).lo:Rat)=L at*
  rw[show((2:Nat):Rat)=2 from rfl]at h
  generalize ((2^s:Nat):Rat)=S at*
  generalize ((X.hi:Nat):Rat)=b at*
  generalize ((X.lo:Nat):Rat)=a at*
  have q3:(b-a)*(b+a)≤(b-a)*(2*S):=Rat.mul_le_mul_of_nonneg_left (by grind) (by grind)
  have q4:(H-L)*S≤((b-a)+4)*S:=by grind
  have:=rq_cancel hSp q4
  grind
 |j+1,hj=>by
  have hS:=Nat.two_pow_pos s
  have ih:=exP_wide hAB hX j (by omega)
  have h:=step_wide (X:=X) (p:=exP X (2^s) (j+2)) (n:=j+3) hS (by omega)
  have hr:=exP_rounds (X:=X) hX (j+1) (by omega)
  have hle:=exP_le (S:=2^s) hAB (j+2)
  have hr2:((exP X (2^s) (j+2)).hi:Rat)*(2*((2^j:Nat):Rat))≤((2^s:Nat):Rat):=by
   have:(exP X (2^s) (j+2)).hi*(2^j*2)≤2^s:=by
    have e:2^s=2^(s-(j+1))*(2^j*2):=by rw[←Nat.pow_succ,←Nat.pow_add];congr 1;omega
    exact Nat.le_trans (Nat.mul_le_mul_right _ hr) (Nat.le_of_eq e.symm)
   have:=rq_le this
   rw[Rat.natCast_mul,Rat.natCast_mul]at this
   rw[show((2:Nat):Rat)=2 from rfl]at this
   grind
  rw[show exP X (2^s) (j+1+2)=((exP X (2^s) (j+2)).times X (2^s)).by (j+3)from rfl]
  have hSp:=rq_nat_pos hS
  have hqp:(0:Rat)<((2^j:Nat):Rat):=rq_nat_pos (Nat.two_pow_pos j)
  have q1:=rq_le hAB
  have q2:=rq_le hX
  have q3:=rq_le hle
  have hn:(3:Rat)≤((j+3:Nat):Rat):=rq_le (show 3≤j+3 by omega)
  rw[show((2^(j+1):Nat):Rat)=2*((2^j:Nat):Rat)by rw[Nat.pow_succ,Rat.natCast_mul,show((2:Nat):Rat)=2 from rfl];grind]
  generalize ((((exP X (2^s) (j+2)).times X (2^s)).by (j+3)).hi:Rat)=H at*
  generalize ((((exP X (2^s) (j+2)).times X (2^s)).by (j+3)).lo:Rat)=L at*
  have z1:(0:Rat)≤((exP X (2^s) (j+2)).lo:Rat):=rq_nat_nonneg _
  have z2:(0:Rat)≤(X.lo:Rat):=rq_nat_nonneg _
  generalize ((exP X (2^s) (j+2)).hi:Rat)=p at*
  generalize ((exP X (2^s) (j+2)).lo:Rat)=r at*
  generalize ((2^s:Nat):Rat)=S at*
  generalize ((2^j:Nat):Rat)=q at*
  generalize ((j+3:Nat):Rat)=n at*
  generalize ((X.hi:Nat):Rat)=b at*
  generalize ((X.lo:Nat):Rat)=a at*
  have u1:(p-r)*a≤(p-r)*S:=Rat.mul_le_mul_of_nonneg_left (by grind) (by grind)
  have u2:(p*b-r*a)≤p*(b-a)+(p-r)*S:=by grind
  have u3:=Rat.mul_le_mul_of_nonneg_right u2 (show(0:Rat)≤2*q by grind)
  have u4:p*(2*q)*(b-a)≤S*(b-a):=Rat.mul_le_mul_of_nonneg_right hr2 (by grind)
  have u5:(p-r)*q*(2*S)≤((b-a)+4*q)*(2*S):=Rat.mul_le_mul_of_nonneg_right ih (by grind)
  have u6:=Rat.mul_le_mul_of_nonneg_right h (show(0:Rat)≤2*q by grind)
  have u7:(p*b-r*a)*(2*q)≤S*(3*(b-a)+8*q):=by grind
  have u8:((H-L)*(2*q)*n)*S≤(3*(b-a)+12*q+4*q*n)*S:=by grind
  have u9:=rq_cancel hSp u8
  have v1:3*(b-a)≤n*(b-a):=Rat.mul_le_mul_of_nonneg_right hn (by grind)
  have v2:3*(4*q)≤n*(4*q):=Rat.mul_le_mul_of_nonneg_right hn (by grind)
  have v3:((H-L)*(2*q))*n≤((b-a)+4*(2*q))*n:=by grind
  exact rq_cancel (show(0:Rat)<n by grind) v3
theorem exS_wide {s:Nat}(hAB:X.lo≤X.hi) (hX:X.hi≤2^s):∀j,j≤s→
 (((exS X (2^s) (j+2)).hi:Rat)-((exS X (2^s) (j+2)).lo:Rat))*((2^j:Nat):Rat)+((X.hi:Rat)-(X.lo:Rat))≤(3*((X.hi:Rat)-(X.lo:Rat))+4*((j+2:Nat):Rat))*((2^j:Nat):Rat)
 |0,hj=>by
  have hS:=Nat.two_pow_pos s
  have h2:=exP_wide hAB hX 0 hj
  obtain⟨e1,e2⟩:=exP_one (X:=X) hS
  have s1:(exS X (2^s) 2).hi=2^s+(exP X (2^s) 1).hi+(exP X (2^s) 2).hi:=rfl
  have s2:(exS X (2^s) 2).lo=2^s+(exP X (2^s) 1).lo+(exP X (2^s) 2).lo:=rfl
  rw[e1]at s1
  rw[e2]at s2
  rw[show exS X (2^s) (0+2)=exS X (2^s) 2 from rfl,s1,s2,Rat.natCast_add,Rat.natCast_add,Rat.natCast_add,Rat.natCast_add]
  rw[show((2^0:Nat):Rat)=1 from rfl]at*
  rw[show((0+2:Nat):Rat)=2 from rfl]
  rw[show exP X (2^s) (0+2)=exP X (2^s) 2 from rfl]at h2
  grind
 |j+1,hj=>by
  have ih:=exS_wide hAB hX j (by omega)
  have h2:=exP_wide hAB hX (j+1) hj
  have s1:(exS X (2^s) (j+3)).hi=(exS X (2^s) (j+2)).hi+(exP X (2^s) (j+3)).hi:=rfl
  have s2:(exS X (2^s) (j+3)).lo=(exS X (2^s) (j+2)).lo+(exP X (2^s) (j+3)).lo:=rfl
  rw[show exS X (2^s) (j+1+2)=exS X (2^s) (j+3)from rfl,s1,s2,Rat.natCast_add,Rat.natCast_add]
  rw[show exP X (2^s) (j+1+2)=exP X (2^s) (j+3)from rfl]at h2
  have e3:((2^(j+1):Nat):Rat)=2*((2^j:Nat):Rat):=by rw[Nat.pow_succ,Rat.natCast_mul,show((2:Nat):Rat)=2 from rfl];grind
  have e4:((j+1+2:Nat):Rat)=((j+2:Nat):Rat)+1:=by rw[show j+1+2=(j+2)+1 by omega,Rat.natCast_add];rfl
  rw[e3]at h2⊢
  rw[e4]
  generalize ((exS X (2^s) (j+2)).hi:Rat)=a1 at*
  generalize ((exS X (2^s) (j+2)).lo:Rat)=a2 at*
  generalize ((exP X (2^s) (j+3)).hi:Rat)=a3 at*
  generalize ((exP X (2^s) (j+3)).lo:Rat)=a4 at*
  generalize ((2^j:Nat):Rat)=q at*
  generalize ((j+2:Nat):Rat)=n at*
  grind
theorem exS_wideN {s j:Nat}(hAB:X.lo≤X.hi) (hX:X.hi≤2^s) (hj:j≤s+1):(exS X (2^s) (j+1)).hi≤(exS X (2^s) (j+1)).lo+3*(X.hi-X.lo)+4*(j+1):=by
 obtain⟨d,hd⟩:∃d,X.hi=X.lo+d:=⟨X.hi-X.lo,by omega⟩
 have hd2:X.hi-X.lo=d:=by omega
 rw[hd2]
 rcases j with _|j
 ·have hS:=Nat.two_pow_pos s
  obtain⟨e1,e2⟩:=exP_one (X:=X) hS
  have s1:(exS X (2^s) 1).hi=2^s+(exP X (2^s) 1).hi:=rfl
  have s2:(exS X (2^s) 1).lo=2^s+(exP X (2^s) 1).lo:=rfl
  rw[show exS X (2^s) (0+1)=exS X (2^s) 1 from rfl,s1,s2,e1,e2,hd]
  omega
 ·have h:=exS_wide hAB hX j (by omega)
  have hqp:(0:Rat)<((2^j:Nat):Rat):=rq_nat_pos (Nat.two_pow_pos j)
  rw[hd,Rat.natCast_add]at h
  refine rq_unle ?_
  rw[Rat.natCast_add,Rat.natCast_add,Rat.natCast_mul,Rat.natCast_mul,show((3:Nat):Rat)=3 from rfl,show((4:Nat):Rat)=4 from rfl]
  have hd0:(0:Rat)≤(d:Rat):=rq_nat_nonneg d
  rw[show exS X (2^s) (j+1+1)=exS X (2^s) (j+2)from rfl,show((j+1+1:Nat):Rat)=((j+2:Nat):Rat)from rfl]
  generalize ((exS X (2^s) (j+2)).hi:Rat)=a1 at*
  generalize ((exS X (2^s) (j+2)).lo:Rat)=a2 at*
  generalize ((2^j:Nat):Rat)=q at*
  generalize ((j+2:Nat):Rat)=n at*
  generalize ((X.lo:Nat):Rat)=a at*
  generalize ((d:Nat):Rat)=e at*
  have h3:(a1-a2)*q≤(3*e+4*n)*q:=by grind
  have:=rq_cancel hqp h3
  grind
end
end Go.Proofs.YtffaefjkpipjnaaGreatDoor
namespace Go.Proofs.YtffaefjkpipjnaaGreatDoor
set_option maxRecDepth 100000
set_option linter.unusedVariables false
structure ExOk (A B s L H:Nat):Prop where
 le:L≤H
 wide:A=B→H≤L+(4*s+64)
 lo:∀x:Rat,((2^s:Nat):Rat)*x=(A:Rat)→0≤x→(L:Rat)≤((2^s:Nat):Rat)*exA x (s+2)
 hi:∀x:Rat,((2^s:Nat):Rat)*x=(B:Rat)→0≤x→x≤1→∀K,((2^s:Nat):Rat)*exA x K≤(H:Rat)
 short:H≤(s+4)*2^s
 wide2:H≤L+3*(B-A)+(8*s+64)
 low:2^s≤L
theorem exS_low {X:Pr}{S:Nat}:∀k,S≤(exS X S k).lo
 |0=>Nat.le_refl _
 |k+1=>Nat.le_trans (exS_low k) (Nat.le_add_right _ _)
theorem exS_ok {A B s k:Nat}(hs:8≤s) (hAB:A≤B) (hB:B≤2^s) (hk:k≤s) (hend:(exP ⟨A,B⟩ (2^s) (k+1)).hi≤1):
 ExOk A B s ((exS ⟨A,B⟩ (2^s) (k+1)).rest (exP ⟨A,B⟩ (2^s) (k+1))).lo ((exS ⟨A,B⟩ (2^s) (k+1)).rest (exP ⟨A,B⟩ (2^s) (k+1))).hi:=by
 have hS:0<2^s:=Nat.two_pow_pos s
 have h8:256≤2^s:=by have:=Nat.pow_le_pow_right (n:=2) (by omega) hs;omega
 have h1:=exS_le (X:=⟨A,B⟩) (S:=2^s) hAB (k+1)
 refine⟨?_,?_,?_,?_,?_,?_,?_⟩
 ·simp only[Pr.rest];omega
 ·intro e
  have:=exS_thin (X:=⟨A,B⟩) (S:=2^s) hS e hB (k+1)
  simp only[Pr.rest]
  omega
 ·intro x hx h0
  have a:=exS_lo (X:=⟨A,B⟩) (S:=2^s) (x:=x) hS (by rw[hx];exact Rat.le_refl) (k+1)
  obtain⟨j,hj⟩:∃j,s+2=k+1+1+j:=⟨s-k,by omega⟩
  have b:=Rat.mul_le_mul_of_nonneg_left (exA_mono h0 (m:=k+1+1) j) (rq_nat_nonneg (2^s))
  rw[hj]
  exact Rat.le_trans a b
 ·intro x hx h0 h1 K
  have a:=exS_hi (X:=⟨A,B⟩) (S:=2^s) (x:=x) hS h0 (by rw[hx];exact Rat.le_refl) (k+1)
  have b:=exP_hi (X:=⟨A,B⟩) (S:=2^s) (x:=x) hS h0 (by rw[hx];exact Rat.le_refl) (k+1)
  have c:=Rat.mul_le_mul_of_nonneg_left (exA_bound h0 h1 (k:=k+1) (by omega) K) (rq_nat_nonneg (2^s))
  have d:(0:Rat)≤((exP ⟨A,B⟩ (2^s) (k+1)).hi:Rat):=rq_nat_nonneg _
  simp only[Pr.rest,Rat.natCast_add]
  rw[Rat.mul_add]at c
  generalize ((2^s:Nat):Rat)*exA x (k+1+1)=p at*
  generalize ((2^s:Nat):Rat)*exT x (k+1)=q at*
  generalize ((2^s:Nat):Rat)*exA x K=r at*
  generalize ((exP ⟨A,B⟩ (2^s) (k+1)).hi:Rat)=t at*
  generalize ((exS ⟨A,B⟩ (2^s) (k+1)).hi:Rat)=u at*
  grind
 ·have:=exS_small (X:=⟨A,B⟩) (S:=2^s) hS hB (k+1)
  simp only[Pr.rest]
  have h2:(k+1+1)*2^s≤(s+2)*2^s:=Nat.mul_le_mul_right _ (by omega)
  have h3:(s+4)*2^s=(s+2)*2^s+2*2^s:=by rw[←Nat.add_mul]
  omega
 ·have:=exS_wideN (X:=⟨A,B⟩) (s:=s) (j:=k) hAB hB (by omega)
  simp only[Pr.rest]
  dsimp only at this
  omega
 ·exact exS_low (k+1)
section
variable {R a N:Nat}{x:Rat}
end
end Go.Proofs.YtffaefjkpipjnaaGreatDoor
namespace Go.Proofs.YtffaefjkpipjnaaGreatDoor
set_option maxRecDepth 100000
set_option linter.unusedVariables false
theorem rq_cancel_eq {a b c:Rat}(hc:0<c) (h:c*a=c*b):a=b:=by
 rw[Rat.mul_comm c a,Rat.mul_comm c b]at h
 exact Rat.le_antisymm (rq_cancel hc (by rw[h];exact Rat.le_refl)) (rq_cancel hc (by rw[h];exact Rat.le_refl))
def sumN (f:Nat→Rat):Nat→Rat
 |0=>0
 |n+1=>sumN f n+f n
theorem sumN_succ (f:Nat→Rat) (n:Nat):sumN f (n+1)=sumN f n+f n:=rfl
theorem sumN_congr {f g:Nat→Rat}:∀{n:Nat},(∀i,i<n→f i=g i)→sumN f n=sumN g n
 |0,_=>rfl
 |n+1,h=>by rw[sumN_succ,sumN_succ,sumN_congr (fun i hi=>h i (by omega)),h n (by omega)]
theorem sumN_add (f g:Nat→Rat):∀n,sumN (fun i=>f i+g i) n=sumN f n+sumN g n
 |0=>by show(0:Rat)=0+0;grind
 |n+1=>by rw[sumN_succ,sumN_succ,sumN_succ,sumN_add f g n];grind
theorem sumN_mul (c:Rat) (f:Nat→Rat):∀n,sumN (fun i=>c*f i) n=c*sumN f n
 |0=>by show(0:Rat)=c*0;grind
 |n+1=>by rw[sumN_succ,sumN_succ,sumN_mul c f n];grind
theorem sumN_left (f:Nat→Rat):∀n,sumN f (n+1)=f 0+sumN (fun i=>f (i+1)) n
 |0=>by show 0+f 0=f 0+0;grind
 |n+1=>by
  rw[sumN_succ,sumN_left f n,sumN_succ (fun i=>f (i+1)) n]
  generalize f 0=a
  generalize sumN (fun i=>f (i+1)) n=b
  generalize f (n+1)=c
  grind
theorem sumN_le {f g:Nat→Rat}:∀{n:Nat},(∀i,i<n→f i≤g i)→sumN f n≤sumN g n
 |0,_=>Rat.le_refl
 |n+1,h=>by
  have h1:=sumN_le (n:=n) (fun i hi=>h i (by omega))
  have h2:=h n (by omega)
  rw[sumN_succ,sumN_succ]
  generalize sumN f n=a at*
  generalize sumN g n=b at*
  grind
theorem sumN_grow {f:Nat→Rat}(h:∀i,0≤f i) (m:Nat):∀j,sumN f m≤sumN f (m+j)
 |0=>Rat.le_refl
 |j+1=>by
  have h1:=sumN_grow h m j
  have h2:=h (m+j)
  rw[show m+(j+1)=m+j+1 by omega,sumN_succ]
  generalize sumN f (m+j)=a at*
  generalize sumN f m=b at*
  grind
theorem exA_sum (x:Rat):∀n,exA x n=sumN (exT x) n
 |0=>rfl
 |n+1=>by rw[exA_succ,sumN_succ,exA_sum x n]
theorem exT_up (x:Rat) (k:Nat):((k+1:Nat):Rat)*exT x (k+1)=x*exT x k:=by
 have hi:=rq_inv (k+1) (by omega)
 rw[exT_succ]
 generalize exT x k=t
 have e:((k+1:Nat):Rat)*(t*x*((k+1:Nat):Rat)⁻¹)=x*t*(((k+1:Nat):Rat)⁻¹*((k+1:Nat):Rat)):=by grind
 rw[e,hi,Rat.mul_one]
theorem exT_conv (x y:Rat):∀n,exT (x+y) n=sumN (fun i=>exT x i*exT y (n-i)) (n+1)
 |0=>by show(1:Rat)=0+1*1;grind
 |n+1=>by
  have ih:=exT_conv x y n
  have hp:=rq_nat_pos (n:=n+1) (by omega)
  have h1:=exT_up (x+y) n
  rw[ih]at h1
  have h2:((n+1:Nat):Rat)*sumN (fun i=>exT x i*exT y (n+1-i)) (n+1+1)=(x+y)*sumN (fun i=>exT x i*exT y (n-i)) (n+1):=by
   rw[←sumN_mul]
   have e1:sumN (fun i=>((n+1:Nat):Rat)*(exT x i*exT y (n+1-i))) (n+1+1)=sumN (fun i=>((i:Nat):Rat)*(exT x i*exT y (n+1-i))+((n+1-i:Nat):Rat)*(exT x i*exT y (n+1-i))) (n+1+1):=sumN_congr (fun i hi=>by
    have:((n+1:Nat):Rat)=((i:Nat):Rat)+((n+1-i:Nat):Rat):=by rw[←Rat.natCast_add];congr 1;omega
    rw[this,Rat.add_mul])
   rw[e1,sumN_add]
   have e2:sumN (fun i=>((i:Nat):Rat)*(exT x i*exT y (n+1-i))) (n+1+1)=x*sumN (fun i=>exT x i*exT y (n-i)) (n+1):=by
    rw[sumN_left,←sumN_mul]
    have z:((0:Nat):Rat)*(exT x 0*exT y (n+1-0))=0:=Rat.zero_mul _
    rw[z,Rat.zero_add]
    refine sumN_congr (fun i hi=>?_)
    have:=exT_up x i
    rw[show n+1-(i+1)=n-i by omega]
    generalize exT x (i+1)=a at*
    generalize exT y (n-i)=b at*
    rw[←Rat.mul_assoc,this,Rat.mul_assoc]
   have e3:sumN (fun i=>((n+1-i:Nat):Rat)*(exT x i*exT y (n+1-i))) (n+1+1)=y*sumN (fun i=>exT x i*exT y (n-i)) (n+1):=by
    rw[sumN_succ,←sumN_mul,Nat.sub_self]
    have z:((0:Nat):Rat)*(exT x (n+1)*exT y 0)=0:=Rat.zero_mul _
    rw[z,Rat.add_zero]
    refine sumN_congr (fun i hi=>?_)
    have:=exT_up y (n-i)
    rw[show n-i+1=n+1-i by omega]at this
    generalize exT y (n+1-i)=a at*
    generalize exT x i=b at*
    have e:((n+1-i:Nat):Rat)*(b*a)=b*(((n+1-i:Nat):Rat)*a):=by
     generalize ((n+1-i:Nat):Rat)=q
     grind
    rw[e,this]
    generalize exT y (n-i)=c
    grind
   rw[e2,e3,Rat.add_mul]
  rw[←h1]at h2
  exact(rq_cancel_eq hp h2).symm
theorem exA_conv (x y:Rat):∀n,exA (x+y) n=sumN (fun i=>exT x i*exA y (n-i)) n
 |0=>rfl
 |n+1=>by
  have h2:sumN (fun i=>exT x i*exA y (n+1-i)) (n+1)=sumN (fun i=>exT x i*exA y (n-i)+exT x i*exT y (n-i)) (n+1):=sumN_congr (fun i hi=>by
   rw[show n+1-i=n-i+1 by omega,exA_succ,Rat.mul_add])
  have z:exT x n*exA y (n-n)=0:=by rw[Nat.sub_self];exact Rat.mul_zero _
  rw[exA_succ,exA_conv x y n,exT_conv x y n,h2,sumN_add,sumN_succ (fun i=>exT x i*exA y (n-i)) n,z,Rat.add_zero]
section
variable {x y:Rat}
theorem exA_nonneg (h0:0≤x) (K:Nat):0≤exA x K:=by
 have:=exA_mono h0 (m:=0) K
 rw[Nat.zero_add]at this
 exact this
theorem exA_up (h0:0≤x) {m n:Nat}(h:m≤n):exA x m≤exA x n:=by
 obtain⟨j,rfl⟩:=Nat.le.dest h
 exact exA_mono h0 j
theorem exA_ge_one (h0:0≤x) (K:Nat):1≤exA x (K+1):=by
 have h:=exA_up h0 (show 1≤K+1 by omega)
 have e:exA x 1=1:=by rw[exA_succ];exact Rat.zero_add 1
 rwa [e]at h
theorem exA_le_mul (h0:0≤x) (h1:0≤y) (n:Nat):exA (x+y) n≤exA x n*exA y n:=by
 rw[exA_conv,exA_sum x n,Rat.mul_comm,←sumN_mul]
 refine sumN_le (fun i hi=>?_)
 rw[Rat.mul_comm]
 exact Rat.mul_le_mul_of_nonneg_right (exA_up h1 (by omega)) (exT_nonneg h0 i)
theorem exA_mul_le (h0:0≤x) (h1:0≤y) (m n:Nat):exA x m*exA y n≤exA (x+y) (m+n):=by
 rw[exA_conv,exA_sum x m,Rat.mul_comm,←sumN_mul]
 refine Rat.le_trans ?_ (sumN_grow (fun i=>Rat.mul_nonneg (exT_nonneg h0 i) (exA_nonneg h1 _)) m n)
 refine sumN_le (fun i hi=>?_)
 rw[Rat.mul_comm]
 exact Rat.mul_le_mul_of_nonneg_left (exA_up h1 (by omega)) (exT_nonneg h0 i)
end
end Go.Proofs.YtffaefjkpipjnaaGreatDoor
namespace Go.Proofs.YtffaefjkpipjnaaGreatDoor
set_option maxRecDepth 100000
set_option linter.unusedVariables false
theorem at_of {A B:Nat}(hB:0<B) (h3:3*A≤B):∃x:Rat,x*(B:Rat)=(A:Rat)∧0≤x∧3*x≤1:=by
 have hBp:=rq_nat_pos hB
 have hx:(A:Rat)*(B:Rat)⁻¹*(B:Rat)=(A:Rat):=by
  rw[Rat.mul_assoc,Rat.inv_mul_cancel _ (by grind),Rat.mul_one]
 refine⟨(A:Rat)*(B:Rat)⁻¹,hx,Rat.mul_nonneg (rq_nat_nonneg A) (rq_inv_nonneg B),?_⟩
 refine rq_cancel hBp ?_
 rw[Rat.mul_assoc,hx,Rat.one_mul]
 have:((3*A:Nat):Rat)≤(B:Rat):=Rat.natCast_le_natCast.2 h3
 rw[Rat.natCast_mul]at this
 exact this
theorem refAt_near {A B n:Nat}{x:Rat}(hB:0<B) (hx:x*(B:Rat)=(A:Rat)) (x0:0≤x) (x1:3*x≤1) (K:Nat):
 ((2^n:Nat):Rat)*atA x K≤((refAt A B (2^n) (n/3+2):Nat):Rat)+8:=by
 have hT:0<2^n:=Nat.two_pow_pos _
 have r2:=refAt_ge (M:=n/3+2) hT hB hx x0 x1
 have t1:=atA_tail x0 x1 (n/3+2+1) K
 obtain⟨p0,p1⟩:=pow_eighth x0 x1 (n/3+2+1)
 have hT8:((2^n:Nat):Rat)≤((8^(n/3+2+1):Nat):Rat):=Rat.natCast_le_natCast.2 (by
  rw[show(8:Nat)=2^3 from rfl,←Nat.pow_mul];exact Nat.pow_le_pow_right (by omega) (by omega))
 have g1:((2^n:Nat):Rat)*x^(2*(n/3+2+1)+1)≤1:=Rat.le_trans (Rat.mul_le_mul_of_nonneg_right hT8 p0) p1
 have a3:=Rat.mul_le_mul_of_nonneg_left t1 (rq_nat_nonneg (2^n))
 generalize ((2^n:Nat):Rat)=T at*
 generalize x^(2*(n/3+2+1)+1)=p at*
 generalize atA x K=u at*
 generalize atA x (n/3+2+1)=v at*
 generalize ((refAt A B (2^n) (n/3+2):Nat):Rat)=R at*
 have e6:T*(v+2*p)=T*v+2*(T*p):=by grind
 rw[e6]at a3
 generalize T*p=tp at*
 generalize T*v=tv at*
 generalize T*u=tu at*
 grind
end Go.Proofs.YtffaefjkpipjnaaGreatDoor
namespace Go.Proofs.YtffaefjkpipjnaaGreatDoor
set_option maxRecDepth 100000
set_option linter.unusedVariables false
theorem rq_total (a b:Rat):a≤b∨b≤a:=Rat.le_total
theorem rq_arch {c r:Rat}(hr:0<r):∃n:Nat,c<(n:Rat)*r:=by
 have h1:=Rat.lt_floor_add_one (c*r⁻¹)
 have hi:=Rat.inv_mul_cancel r (by intro e;rw[e]at hr;exact Rat.lt_irrefl hr)
 refine⟨((c*r⁻¹).floor+1).toNat,?_⟩
 have h2:(((c*r⁻¹).floor+1:Int):Rat)≤((((c*r⁻¹).floor+1).toNat:Nat):Rat):=by
  have:(c*r⁻¹).floor+1≤((((c*r⁻¹).floor+1).toNat:Nat):Int):=Int.self_le_toNat _
  have:=Rat.intCast_le_intCast.2 this
  exact this
 have h3:c*r⁻¹<((((c*r⁻¹).floor+1).toNat:Nat):Rat):=by
  generalize ((((c*r⁻¹).floor+1).toNat:Nat):Rat)=n at*
  generalize (((c*r⁻¹).floor+1:Int):Rat)=m at*
  grind
 have h4:=Rat.mul_lt_mul_of_pos_right h3 hr
 rw[Rat.mul_assoc,hi,Rat.mul_one]at h4
 exact h4
theorem rq_bern {r:Rat}(hr: -1≤r):∀n:Nat,1+(n:Rat)*r≤(1+r)^n
 |0=>by rw[Rat.pow_zero];show 1+0*r≤1;grind
 |n+1=>by
  have h1:=rq_bern hr n
  have h2:=Rat.mul_le_mul_of_nonneg_right h1 (show 0≤1+r by grind)
  have h3:0≤r*r:=by
   rcases rq_total 0 r with h|h
   ·exact Rat.mul_nonneg h h
   ·have:=Rat.mul_nonneg (show 0≤-r by grind) (show 0≤-r by grind);grind
  have h4:=Rat.mul_nonneg (rq_nat_nonneg n) h3
  rw[Rat.pow_succ,Rat.natCast_add]
  show 1+((n:Rat)+1)*r≤_
  generalize (1+r)^n=p at*
  generalize (n:Rat)=m at*
  grind
theorem pow_unbound {θ c:Rat}(h:1<θ) (hb:∀n:Nat,θ^n≤c):False:=by
 obtain⟨n,hn⟩:=rq_arch (c:=c) (r:=θ-1) (by grind)
 have h1:=rq_bern (r:=θ-1) (by grind) n
 have h2:=hb n
 have e:1+(θ-1)=θ:=by grind
 rw[e]at h1
 generalize θ^n=p at*
 grind
theorem rq_inv_pos {c:Rat}(h:0<c):0<c⁻¹∧c⁻¹*c=1:=⟨Rat.inv_pos.2 h,Rat.inv_mul_cancel c (by intro e;rw[e]at h;exact Rat.lt_irrefl h)⟩
theorem exA_bounded:∀{x:Rat},0≤x→∃e,1≤e∧∀K,exA x K≤e:=by
 have small:∀{x:Rat},0≤x→x≤1→∀K,exA x K≤3:=by
  intro x h0 h1 K
  have h:=exA_bound h0 h1 (k:=1) (Nat.le_refl 1) K
  have i1:((0+1:Nat):Rat)⁻¹=1:=by decide+kernel
  have e1:exT x 1=x:=by rw[exT_succ,i1,show exT x 0=1 from rfl];grind
  have e2:exA x 2=1+x:=by rw[exA_succ,exA_succ,e1,show exA x 0=0 from rfl,show exT x 0=1 from rfl];grind
  rw[e1,e2]at h
  grind
 have step:∀n:Nat,∀{x:Rat},0≤x→x≤(n:Rat)→∃e,1≤e∧∀K,exA x K≤e:=by
  intro n
  induction n with
  |zero=>
   intro x h0 h1
   have h2:x≤0:=h1
   exact⟨3,by decide,small h0 (by grind)⟩
  |succ n ih=>
   intro x h0 h1
   rw[Rat.natCast_add]at h1
   replace h1:x≤(n:Rat)+1:=h1
   rcases rq_total x 1 with h|h
   ·exact⟨3,by decide,small h0 h⟩
   ·obtain⟨e,he1,he⟩:=ih (x:=x-1) (by grind) (by grind)
    refine⟨e*3,by grind,fun K=>?_⟩
    have h2:=exA_le_mul (x:=x-1) (y:=1) (by grind) (by decide) K
    have e3:x-1+1=x:=by grind
    rw[e3]at h2
    exact Rat.le_trans h2 (rq_mul_le (exA_nonneg (by grind) K) (he K) (exA_nonneg (by decide) K) (small (by decide) Rat.le_refl K))
 intro x h0
 obtain⟨n,hn⟩:=rq_arch (c:=x) (r:=1) (by decide)
 exact step n h0 (by grind)
def EL (a b c d:Rat):Prop:=∀t e:Rat,0<t→(∀K,exA b K*t≤e)→∀K,exA a K*t*c≤d*e
section
variable {a b a' b' c d c' d':Rat}
theorem EL.refl:EL b b 1 1:=fun t e ht h K=>by rw[Rat.mul_one,Rat.one_mul];exact h K
theorem EL.mul (a0:0≤a) (b0:0≤b) (a0':0≤a') (b0':0≤b') (hc:0<c) (hc':0<c') (hd:0<d) (h:EL a b c d) (h':EL a' b' c' d'):EL (a+a') (b+b') (c*c') (d*d'):=by
 intro t e ht he
 have s1:∀J K,exA a K*(exA b' (J+1)*t)*c≤d*e:=fun J K=>by
  have p:=exA_ge_one b0' J
  refine h (exA b' (J+1)*t) e (Rat.mul_pos (by grind) ht) (fun I=>?_) K
  have q:=Rat.mul_le_mul_of_nonneg_right (exA_mul_le b0 b0' I (J+1)) (Rat.le_of_lt ht)
  rw[←Rat.mul_assoc]
  exact Rat.le_trans q (he _)
 have s2:∀K,exA (a+a') (K+1)*t*(c*c')≤d*d'*e:=fun K=>by
  have p:=exA_ge_one a0 K
  have r:=h' (exA a (K+1)*t*c) (d*e) (Rat.mul_pos (Rat.mul_pos (by grind) ht) hc) (fun J=>by
   have r1:=s1 J (K+1)
   have r2:=exA_up b0' (show J≤J+1 by omega)
   have r3:0≤exA a (K+1)*t*c:=Rat.mul_nonneg (Rat.mul_nonneg (by grind) (Rat.le_of_lt ht)) (Rat.le_of_lt hc)
   have r4:=Rat.mul_le_mul_of_nonneg_right r2 r3
   have r5:exA b' (J+1)*(exA a (K+1)*t*c)=exA a (K+1)*(exA b' (J+1)*t)*c:=by grind
   rw[r5]at r4
   exact Rat.le_trans r4 r1) (K+1)
  have m:=exA_le_mul a0 a0' (K+1)
  have m2:=Rat.mul_le_mul_of_nonneg_right m (show 0≤t*(c*c')from Rat.le_of_lt (Rat.mul_pos ht (Rat.mul_pos hc hc')))
  generalize exA (a+a') (K+1)=u at*
  generalize exA a (K+1)=v at*
  generalize exA a' (K+1)=w at*
  have e1:u*t*(c*c')=u*(t*(c*c')):=by grind
  have e2:w*(v*t*c)*c'=v*w*(t*(c*c')):=by grind
  have e3:d*d'*e=d'*(d*e):=by grind
  rw[e1,e3]
  rw[e2]at r
  exact Rat.le_trans m2 r
 intro K
 have up:=exA_up (show 0≤a+a' by grind) (show K≤K+1 by omega)
 have up2:=Rat.mul_le_mul_of_nonneg_right up (show 0≤t*(c*c')from Rat.le_of_lt (Rat.mul_pos ht (Rat.mul_pos hc hc')))
 have e1:exA (a+a') K*t*(c*c')=exA (a+a') K*(t*(c*c')):=by rw[Rat.mul_assoc]
 have e2:exA (a+a') (K+1)*t*(c*c')=exA (a+a') (K+1)*(t*(c*c')):=by rw[Rat.mul_assoc]
 have s:=s2 K
 rw[e2]at s
 rw[e1]
 exact Rat.le_trans up2 s
theorem EL.same (b0:0≤b) (hc:0<c) (hd:0<d) (h:EL b b c d):c≤d:=by
 rcases rq_total c d with hcd|hcd
 ·exact hcd
 rcases Rat.le_iff_lt_or_eq.1 hcd with hlt|heq
 ·exfalso
  obtain⟨e,he1,he⟩:=exA_bounded b0
  obtain⟨ip,ic⟩:=rq_inv_pos hd
  have hθ:1<c*d⁻¹:=by
   have:=Rat.mul_lt_mul_of_pos_right hlt ip
   rw[Rat.mul_comm d,ic]at this
   exact this
  refine pow_unbound (θ:=c*d⁻¹) (c:=e) hθ (fun n=>?_)
  have key:∀n:Nat,∀K,exA b K*(c*d⁻¹)^n≤e:=by
   intro n
   induction n with
   |zero=>intro K;rw[Rat.pow_zero,Rat.mul_one];exact he K
   |succ n ih=>
    intro K
    have hp:0<(c*d⁻¹)^n:=Rat.pow_pos (Rat.mul_pos hc ip)
    have r:=h _ e hp ih K
    have r2:=Rat.mul_le_mul_of_nonneg_right r (Rat.le_of_lt ip)
    rw[Rat.pow_succ]
    generalize (c*d⁻¹)^n=p at*
    generalize exA b K=u at*
    have e1:u*p*c*d⁻¹=u*(p*(c*d⁻¹)):=by grind
    have e2:d*e*d⁻¹=d⁻¹*d*e:=by grind
    rw[e1,e2,ic,Rat.one_mul]at r2
    exact r2
  have k:=key n 1
  have e1:exA b 1=1:=by rw[exA_succ];exact Rat.zero_add 1
  rw[e1,Rat.one_mul]at k
  exact k
 ·rw[heq];exact Rat.le_refl
theorem EL.cancel {x:Rat}(a0:0≤a) (b0:0≤b) (x0:0≤x) (hc:0<c) (hd:0<d) (h:EL (a+x) (b+x) c d):EL a b c d:=by
 intro t e ht he
 have e0:0<e:=by
  have:=he 1
  have e1:exA b 1=1:=by rw[exA_succ];exact Rat.zero_add 1
  rw[e1,Rat.one_mul]at this
  grind
 have main:∀K,exA a (K+1)*t*c≤d*e:=fun K=>by
  have p:=exA_ge_one a0 K
  refine EL.same x0 (Rat.mul_pos (Rat.mul_pos (by grind) ht) hc) (Rat.mul_pos hd e0) (fun t' e' ht' he' J=>?_)
  have r:=h (t*t') (e*e') (Rat.mul_pos ht ht') (fun I=>by
   have m:=Rat.mul_le_mul_of_nonneg_right (exA_le_mul b0 x0 I) (Rat.le_of_lt (Rat.mul_pos ht ht'))
   have m2:=rq_mul_le (a:=exA b I*t) (c:=exA x I*t') (Rat.mul_nonneg (exA_nonneg b0 I) (Rat.le_of_lt ht)) (he I) (Rat.mul_nonneg (exA_nonneg x0 I) (Rat.le_of_lt ht')) (he' I)
   have e1:exA b I*exA x I*(t*t')=exA b I*t*(exA x I*t'):=by grind
   rw[e1]at m
   exact Rat.le_trans m m2) (K+1+J)
  have m:=Rat.mul_le_mul_of_nonneg_right (exA_mul_le a0 x0 (K+1) J) (Rat.le_of_lt (Rat.mul_pos (Rat.mul_pos ht ht') hc))
  generalize exA (a+x) (K+1+J)=u at*
  generalize exA a (K+1)=v at*
  generalize exA x J=w at*
  have e1:u*(t*t')*c=u*(t*t'*c):=by grind
  have e2:w*t'*(v*t*c)=v*w*(t*t'*c):=by grind
  have e3:d*(e*e')=d*e*e':=by grind
  rw[e1,e3]at r
  rw[e2]
  exact Rat.le_trans m r
 intro K
 have up:=exA_up a0 (show K≤K+1 by omega)
 have up2:=Rat.mul_le_mul_of_nonneg_right up (show 0≤t*c from Rat.le_of_lt (Rat.mul_pos ht hc))
 have s:=main K
 rw[Rat.mul_assoc]at s⊢
 exact Rat.le_trans up2 s
theorem EL.scale {r:Rat}(hr:0<r) (h:EL a b c d):EL a b (c*r) (d*r):=fun t e ht he K=>by
 have s:=Rat.mul_le_mul_of_nonneg_right (h t e ht he K) (Rat.le_of_lt hr)
 have e1:d*r*e=d*e*r:=by grind
 rw[←Rat.mul_assoc,e1]
 exact s
theorem EL.unscale {r:Rat}(hr:0<r) (h:EL a b (c*r) (d*r)):EL a b c d:=fun t e ht he K=>by
 have s:=h t e ht he K
 have e1:d*r*e=d*e*r:=by grind
 rw[←Rat.mul_assoc,e1]at s
 exact rq_cancel hr s
end
def XL (q c d:Rat):Prop:=0<c∧0<d∧∃a b,0≤a∧0≤b∧q=a-b∧EL a b c d
section
variable {p q c d c' d':Rat}
theorem XL.mul (h:XL p c d) (h':XL q c' d'):XL (p+q) (c*c') (d*d'):=by
 obtain⟨hc,hd,a,b,a0,b0,e,k⟩:=h
 obtain⟨hc',hd',a',b',a0',b0',e',k'⟩:=h'
 exact⟨Rat.mul_pos hc hc',Rat.mul_pos hd hd',a+a',b+b',by grind,by grind,by grind,EL.mul a0 b0 a0' b0' hc hc' hd k k'⟩
theorem XL.scale {r:Rat}(hr:0<r) (h:XL q c d):XL q (c*r) (d*r):=by
 obtain⟨hc,hd,a,b,a0,b0,e,k⟩:=h
 exact⟨Rat.mul_pos hc hr,Rat.mul_pos hd hr,a,b,a0,b0,e,k.scale hr⟩
theorem XL.unscale {r:Rat}(hr:0<r) (hc:0<c) (hd:0<d) (h:XL q (c*r) (d*r)):XL q c d:=by
 obtain⟨_,_,a,b,a0,b0,e,k⟩:=h
 exact⟨hc,hd,a,b,a0,b0,e,k.unscale hr⟩
theorem XL.trans {f:Rat}(h:XL p c d) (h':XL q d f):XL (p+q) c f:=by
 have m:=h.mul h'
 have e1:d*f=f*d:=Rat.mul_comm _ _
 rw[e1]at m
 exact XL.unscale h.2.1 h.1 h'.2.1 m
theorem XL.zero_le (h:XL 0 c d):c≤d:=by
 obtain⟨hc,hd,a,b,a0,b0,e,k⟩:=h
 have:a=b:=by grind
 subst this
 exact EL.same a0 hc hd k
theorem XL.of_le (hc:0<c) (h:c≤d):XL 0 c d:=by
 refine⟨hc,by grind,0,0,by decide,by decide,by grind,fun t e ht he K=>?_⟩
 have h1:=he 1
 have e1:exA 0 1=1:=by rw[exA_succ];exact Rat.zero_add 1
 rw[e1,Rat.one_mul]at h1
 have h2:=he K
 have h3:=Rat.mul_le_mul_of_nonneg_right h2 (Rat.le_of_lt hc)
 have h4:=Rat.mul_le_mul_of_nonneg_right h (show 0≤e by grind)
 rw[Rat.mul_comm c]at h4
 exact Rat.le_trans h3 h4
theorem XL.up (h:XL q c d) (hd:d≤d'):XL q c d':=by
 have:=h.trans (XL.of_le h.2.1 hd)
 rwa [Rat.add_zero]at this
theorem XL.down (h:XL q c d) (hc:0<c') (hd:c'≤c):XL q c' d:=by
 have:=(XL.of_le hc hd).trans h
 rwa [Rat.zero_add]at this
theorem XL.of_series (h0:0≤q) (hc:0<c) (h:∀K,exA q K*c≤d):XL q c d:=by
 have h1:=h 1
 have e1:∀x,exA x 1=1:=fun x=>by rw[exA_succ];exact Rat.zero_add 1
 rw[e1,Rat.one_mul]at h1
 refine⟨hc,by grind,q,0,h0,by decide,by grind,fun t e ht he K=>?_⟩
 have h2:=he 1
 rw[e1,Rat.one_mul]at h2
 have h3:=rq_mul_le (a:=exA q K*c) (c:=t) (Rat.mul_nonneg (exA_nonneg h0 K) (Rat.le_of_lt hc)) (h K) (Rat.le_of_lt ht) h2
 have e2:exA q K*t*c=exA q K*c*t:=by grind
 rw[e2]
 exact h3
theorem exA_at_zero:∀K,exA 0 K≤1
 |0=>by show(0:Rat)≤1;decide
 |1=>by rw[exA_succ];show(0:Rat)+1≤1;grind
 |K+2=>by
  have h:=exA_at_zero (K+1)
  have e:exT 0 (K+1)=0:=by rw[exT_succ,Rat.mul_zero,Rat.zero_mul]
  rw[exA_succ,e]
  grind
theorem XL.neg_series {K:Nat}(h0:0≤q) (hc:0<c) (h:c≤d*exA q K) (hd:0<d):XL (-q) c d:=by
 refine⟨hc,hd,0,q,by decide,h0,by grind,fun t e ht he J=>?_⟩
 have h1:=Rat.mul_le_mul_of_nonneg_right (exA_at_zero J) (Rat.le_of_lt (Rat.mul_pos ht hc))
 have h2:=Rat.mul_le_mul_of_nonneg_right h (Rat.le_of_lt ht)
 have h3:=Rat.mul_le_mul_of_nonneg_left (he K) (Rat.le_of_lt hd)
 generalize exA 0 J=u at*
 generalize exA q K=v at*
 have e1:u*t*c=u*(t*c):=by grind
 have e2:d*v*t=d*(v*t):=by grind
 rw[e2]at h2
 rw[Rat.one_mul,Rat.mul_comm t c]at h1
 rw[e1,Rat.mul_comm t c]
 exact Rat.le_trans h1 (Rat.le_trans h2 h3)
theorem XL.neg_one (h:q≤0) (hc:0<c):XL q c c:=by
 have e1:exA (-q) 1=1:=by rw[exA_succ];exact Rat.zero_add 1
 have:=XL.neg_series (q:= -q) (c:=c) (d:=c) (K:=1) (by grind) hc (by rw[e1,Rat.mul_one];exact Rat.le_refl) hc
 have e: - -q=q:=by grind
 rwa [e]at this
theorem XL.mono (h:XL q c d) (hp:p≤q):XL p c d:=by
 have:=(XL.neg_one (q:=p-q) (by grind) h.1).trans h
 have e:p-q+q=p:=by grind
 rwa [e]at this
theorem XL.neg_lin (h:0≤q):XL (-q) (1+q) 1:=by
 have i1:((0+1:Nat):Rat)⁻¹=1:=by decide+kernel
 have e1:exT q 1=q:=by rw[exT_succ,i1,show exT q 0=1 from rfl];grind
 have e2:exA q 2=1+q:=by rw[exA_succ,exA_succ,e1,show exA q 0=0 from rfl,show exT q 0=1 from rfl];grind
 exact XL.neg_series (K:=2) h (by grind) (by rw[e2];grind) (by decide)
theorem exT_le_pow (h0:0≤q):∀k,exT q k≤q^k
 |0=>by rw[Rat.pow_zero];exact Rat.le_refl
 |k+1=>by
  have h:=exT_le_pow h0 k
  have hi0:=rq_inv_nonneg (k+1)
  have hi1:((k+1:Nat):Rat)⁻¹≤1:=by
   have:=rq_inv (k+1) (by omega)
   refine rq_cancel (rq_nat_pos (n:=k+1) (by omega)) ?_
   rw[this,Rat.one_mul]
   exact Rat.natCast_le_natCast.2 (show 1≤k+1 by omega)
  rw[exT_succ,Rat.pow_succ]
  have a:=Rat.mul_le_mul_of_nonneg_right h h0
  have b:=Rat.mul_le_mul_of_nonneg_left hi1 (Rat.mul_nonneg (exT_nonneg h0 k) h0)
  rw[Rat.mul_one]at b
  exact Rat.le_trans b a
theorem exA_geo (h0:0≤q) (h1:q≤1):∀K,exA q K*(1-q)≤1-q^K
 |0=>by rw[Rat.pow_zero];show 0*(1-q)≤1-1;grind
 |K+1=>by
  have h:=exA_geo h0 h1 K
  have h2:=Rat.mul_le_mul_of_nonneg_right (exT_le_pow h0 K) (show 0≤1-q by grind)
  rw[exA_succ,Rat.pow_succ]
  generalize exA q K=u at*
  generalize exT q K=v at*
  generalize q^K=w at*
  grind
theorem XL.pos_lin (h0:0≤q) (h1:q<1):XL q (1-q) 1:=by
 refine XL.of_series h0 (by grind) (fun K=>?_)
 have h:=exA_geo h0 (by grind) K
 have h2:0≤q^K:=rq_pow_nonneg h0 K
 generalize q^K=w at*
 grind
theorem XL.le_zero (h:XL q c c):q≤0:=by
 rcases rq_total q 0 with hq|hq
 ·exact hq
 have h2:=(XL.neg_lin hq).mul h
 have e: -q+q=0:=by grind
 rw[e]at h2
 have h3:=h2.zero_le
 have h4:(1+q)*c≤1*c:=h3
 have:=rq_cancel h.1 h4
 grind
theorem XL.le_of (h:XL p c d) (h':XL (-q) d c):p≤q:=by
 have:=(h.trans h').le_zero
 grind
theorem XL.split (h:XL q c d) {a b:Rat}(a0:0≤a) (b0:0≤b) (e:q=a-b):EL a b c d:=by
 obtain⟨hc,hd,a',b',a0',b0',e',k⟩:=h
 have k1:=EL.mul a0' b0' b0 b0 hc (show(0:Rat)<1 by decide) hd k EL.refl
 have e1:a'+b=a+b':=by grind
 have e2:b'+b=b+b':=by grind
 rw[e1,e2,Rat.mul_one,Rat.mul_one]at k1
 exact EL.cancel a0 b0 b0' hc hd k1
theorem rq_parts (q:Rat):∃a b,0≤a∧0≤b∧q=a-b:=by
 rcases rq_total 0 q with h|h
 ·exact⟨q,0,h,Rat.le_refl,by grind⟩
 ·exact⟨0,-q,Rat.le_refl,by grind,by grind⟩
theorem XL.close (hc:0<c) (hd:0<d) (h:∀d',d<d'→XL q c d'):XL q c d:=by
 obtain⟨a,b,a0,b0,e⟩:=rq_parts q
 refine⟨hc,hd,a,b,a0,b0,e,fun t f ht hf K=>?_⟩
 have f0:0<f:=by
  have:=hf 1
  have e1:exA b 1=1:=by rw[exA_succ];exact Rat.zero_add 1
  rw[e1,Rat.one_mul]at this
  grind
 rcases rq_total (exA a K*t*c) (d*f)with h1|h1
 ·exact h1
 obtain⟨ip,ic⟩:=rq_inv_pos f0
 obtain⟨z,hz⟩:∃z,z*f=exA a K*t*c:=⟨exA a K*t*c*f⁻¹,by rw[Rat.mul_assoc,ic,Rat.mul_one]⟩
 rw[←hz]at h1⊢
 have hdz:d≤z:=rq_cancel f0 h1
 rcases Rat.le_iff_lt_or_eq.1 hdz with hlt|heq
 ·exfalso
  have k:=(h ((d+z)*(1/2)) (by grind)).split a0 b0 e t f ht hf K
  rw[←hz]at k
  have:=rq_cancel f0 k
  grind
 ·rw[heq];exact Rat.le_refl
theorem XL.pow (h:XL q c d):∀n:Nat,XL ((n:Rat)*q) (c^n) (d^n)
 |0=>by
  rw[Rat.pow_zero,Rat.pow_zero,show((0:Nat):Rat)*q=0 from Rat.zero_mul _]
  exact XL.of_le (by decide) Rat.le_refl
 |n+1=>by
  have:=(XL.pow h n).mul h
  rw[Rat.pow_succ,Rat.pow_succ,Rat.natCast_add]
  have e:((n:Rat)+((1:Nat):Rat))*q=(n:Rat)*q+q:=by
   rw[Rat.add_mul];congr 1;exact Rat.one_mul q
  rw[e]
  exact this
end
end Go.Proofs.YtffaefjkpipjnaaGreatDoor
namespace Go.Proofs.YtffaefjkpipjnaaGreatDoor
set_option maxRecDepth 100000
set_option linter.unusedVariables false
theorem one_sub_pow {a:Rat}(h0:0≤a) (h1:a≤1):∀n:Nat,(1+a)^n*(1-(n:Rat)*a)≤1
 |0=>by rw[Rat.pow_zero];show 1*(1-0*a)≤1;grind
 |n+1=>by
  have h:=one_sub_pow h0 h1 n
  have hp:0≤(1+a)^n:=rq_pow_nonneg (by grind) n
  have hn:=rq_nat_nonneg n
  rw[Rat.pow_succ,Rat.natCast_add]
  show(1+a)^n*(1+a)*(1-((n:Rat)+1)*a)≤1
  have e:(1+a)^n*(1+a)*(1-((n:Rat)+1)*a)=(1+a)^n*(1-(n:Rat)*a)-(1+a)^n*(((n:Rat)+1)*(a*a)):=by grind
  have q:0≤(1+a)^n*(((n:Rat)+1)*(a*a)):=Rat.mul_nonneg hp (Rat.mul_nonneg (by grind) (Rat.mul_nonneg h0 h0))
  rw[e]
  grind
theorem XL.tele {φ α β:Rat→Rat}{C b:Rat}(hC:0≤C) (hb:0≤b) (hα:∀x,0≤x→x≤b→0<α x) (hβ:∀x,0≤x→x≤b→0<β x)
 (h:∀x y,0≤x→x≤y→y≤b→XL (φ y-φ x) (α x*β y) (α y*β x*(1+C*((y-x)*(y-x))))):
 XL (φ b-φ 0) (α 0*β b) (α b*β 0):=by
 have a0:=hα 0 Rat.le_refl hb
 have b0:=hβ 0 Rat.le_refl hb
 have ab:=hα b hb Rat.le_refl
 have bb:=hβ b hb Rat.le_refl
 have steps:∀n:Nat,0<n→XL (φ b-φ 0) (α 0*β b) (α b*β 0*(1+C*(b*((n:Rat))⁻¹*(b*((n:Rat))⁻¹)))^n):=by
  intro n hn
  have hi:=rq_inv n hn
  have hi0:=rq_inv_nonneg n
  obtain⟨δ,hδ⟩:∃δ,δ=b*((n:Rat))⁻¹:=⟨_,rfl⟩
  have δ0:0≤δ:=by rw[hδ];exact Rat.mul_nonneg hb hi0
  have hnδ:(n:Rat)*δ=b:=by
   rw[hδ]
   have:(n:Rat)*(b*((n:Rat))⁻¹)=b*(((n:Rat))⁻¹*(n:Rat)):=by grind
   rw[this,hi,Rat.mul_one]
  rw[←hδ]
  obtain⟨ρ,hρ⟩:∃ρ,ρ=1+C*(δ*δ):=⟨_,rfl⟩
  have ρ0:0<ρ:=by have:=Rat.mul_nonneg hC (Rat.mul_nonneg δ0 δ0);grind
  rw[←hρ]
  have ind:∀i:Nat,i≤n→XL (φ ((i:Rat)*δ)-φ 0) (α 0*β ((i:Rat)*δ)) (α ((i:Rat)*δ)*β 0*ρ^i):=by
   intro i
   induction i with
   |zero=>
    intro _
    have e:((0:Nat):Rat)*δ=0:=Rat.zero_mul _
    rw[e,Rat.pow_zero,Rat.mul_one]
    have e2:φ 0-φ 0=0:=by grind
    rw[e2]
    exact XL.of_le (Rat.mul_pos a0 b0) Rat.le_refl
   |succ i ih=>
    intro hi
    have k1:=ih (by omega)
    have e1:((i+1:Nat):Rat)*δ=(i:Rat)*δ+δ:=by
     rw[Rat.natCast_add,Rat.add_mul];congr 1;exact Rat.one_mul δ
    have x0:0≤(i:Rat)*δ:=Rat.mul_nonneg (rq_nat_nonneg i) δ0
    have xb:((i+1:Nat):Rat)*δ≤b:=by
     rw[←hnδ]
     exact Rat.mul_le_mul_of_nonneg_right (Rat.natCast_le_natCast.2 hi) δ0
    rw[e1]at xb⊢
    generalize (i:Rat)*δ=x at*
    have k2:=h x (x+δ) x0 (by grind) xb
    have e2:x+δ-x=δ:=by grind
    rw[e2,←hρ]at k2
    have ax:=hα x x0 (by grind)
    have bx:=hβ x x0 (by grind)
    have ay:=hα (x+δ) (by grind) xb
    have yy:=hβ (x+δ) (by grind) xb
    have k3:=k1.mul k2
    have e3:φ x-φ 0+(φ (x+δ)-φ x)=φ (x+δ)-φ 0:=by grind
    rw[e3]at k3
    have e4:α 0*β x*(α x*β (x+δ))=α 0*β (x+δ)*(α x*β x):=by grind
    have e5:α x*β 0*ρ^i*(α (x+δ)*β x*ρ)=α (x+δ)*β 0*ρ^(i+1)*(α x*β x):=by rw[Rat.pow_succ];grind
    rw[e4,e5]at k3
    exact XL.unscale (Rat.mul_pos ax bx) (Rat.mul_pos a0 yy) (Rat.mul_pos (Rat.mul_pos ay b0) (Rat.pow_pos ρ0)) k3
  have k:=ind n (Nat.le_refl n)
  rw[hnδ]at k
  exact k
 refine XL.close (Rat.mul_pos a0 bb) (Rat.mul_pos ab b0) (fun d' hd'=>?_)
 obtain⟨D,hD⟩:∃D,D=α b*β 0:=⟨_,rfl⟩
 have D0:0<D:=by rw[hD];exact Rat.mul_pos ab b0
 rw[←hD]at hd' steps
 obtain⟨n,hn⟩:=rq_arch (c:=C*(b*b)*d') (r:=d'-D) (by grind)
 obtain⟨m,hm⟩:=rq_arch (c:=C*(b*b)) (r:=1) (by decide)
 obtain⟨N,hN⟩:∃N,N=n+m+1:=⟨_,rfl⟩
 have N0:0<N:=by omega
 have k:=steps N N0
 have hi:=rq_inv N N0
 have hi0:=rq_inv_nonneg N
 have Np:=rq_nat_pos N0
 have cb:0≤C*(b*b):=Rat.mul_nonneg hC (Rat.mul_nonneg hb hb)
 have nN:(n:Rat)≤(N:Rat):=Rat.natCast_le_natCast.2 (by omega)
 have mN:(m:Rat)≤(N:Rat):=Rat.natCast_le_natCast.2 (by omega)
 have N1:(1:Rat)≤(N:Rat):=Rat.natCast_le_natCast.2 N0
 obtain⟨a,ha⟩:∃a,a=C*(b*((N:Rat))⁻¹*(b*((N:Rat))⁻¹)):=⟨_,rfl⟩
 have a0':0≤a:=by rw[ha];exact Rat.mul_nonneg hC (Rat.mul_nonneg (Rat.mul_nonneg hb hi0) (Rat.mul_nonneg hb hi0))
 have hNa:(N:Rat)*a*(N:Rat)=C*(b*b):=by
  rw[ha]
  have:(N:Rat)*(C*(b*((N:Rat))⁻¹*(b*((N:Rat))⁻¹)))*(N:Rat)=C*(b*b)*((((N:Rat))⁻¹*(N:Rat))*(((N:Rat))⁻¹*(N:Rat))):=by grind
  rw[this,hi];grind
 have a1:(N:Rat)*a≤1:=by
  refine rq_cancel Np ?_
  rw[hNa];grind
 have a2:a≤1:=by
  have:=Rat.mul_le_mul_of_nonneg_right N1 a0'
  rw[Rat.one_mul]at this
  exact Rat.le_trans this a1
 have p:=one_sub_pow a0' a2 N
 rw[←ha]at k
 have p0:0<(1+a)^N:=Rat.pow_pos (by grind)
 refine k.up ?_
 generalize (1+a)^N=P at*
 have g:D≤d'*(1-(N:Rat)*a):=by
  refine rq_cancel Np ?_
  have e:d'*(1-(N:Rat)*a)*(N:Rat)=d'*(N:Rat)-((N:Rat)*a*(N:Rat))*d':=by grind
  rw[e,hNa]
  have:=Rat.mul_le_mul_of_nonneg_right nN (show 0≤d'-D by grind)
  grind
 have q0:0<1-(N:Rat)*a:=by
  rcases rq_total (1-(N:Rat)*a) 0 with h|h
  ·have:=Rat.mul_le_mul_of_nonneg_left h (show 0≤d' by grind)
   grind
  ·rcases Rat.le_iff_lt_or_eq.1 h with h|h
   ·exact h
   ·rw[←h]at g;grind
 refine rq_cancel q0 (Rat.le_trans ?_ g)
 have:=Rat.mul_le_mul_of_nonneg_left p (Rat.le_of_lt D0)
 rw[Rat.mul_one,←Rat.mul_assoc]at this
 exact this
theorem pow_step_hi {x y:Rat}(h0:0≤x) (h:x≤y):∀m:Nat,y^(m+1)-x^(m+1)≤((m+1:Nat):Rat)*((y-x)*y^m)
 |0=>by
  rw[Rat.pow_succ,Rat.pow_succ,Rat.pow_zero,Rat.pow_zero]
  show 1*y-1*x≤1*((y-x)*1);grind
 |m+1=>by
  have ih:=pow_step_hi h0 h m
  have h1:=rq_pow_mono h0 h (m+1)
  have h2:=Rat.mul_le_mul_of_nonneg_right ih (show 0≤y by grind)
  have h3:=Rat.mul_le_mul_of_nonneg_right h1 (show 0≤y-x by grind)
  rw[Rat.pow_succ y (m+1),Rat.pow_succ x (m+1),Rat.natCast_add (m+1) 1]
  show _≤(((m+1:Nat):Rat)+1)*_
  rw[Rat.pow_succ y m]at h1 h2 h3⊢
  generalize x^(m+1)=p at*
  generalize ((m+1:Nat):Rat)=n at*
  generalize y^m=q at*
  have e1:(q*y-p)*y=q*y*y-p*y:=by grind
  have e2:n*((y-x)*q)*y=n*((y-x)*(q*y)):=by grind
  rw[e1,e2]at h2
  have e3:(n+1)*((y-x)*(q*y))=n*((y-x)*(q*y))+(y-x)*(q*y):=by grind
  rw[e3]
  clear e1 e2 e3 ih
  generalize n*((y-x)*(q*y))=z at*
  grind
theorem pow_step_lo {x y:Rat}(h0:0≤x) (h:x≤y):∀m:Nat,((m+1:Nat):Rat)*((y-x)*x^m)≤y^(m+1)-x^(m+1)
 |0=>by
  rw[Rat.pow_succ,Rat.pow_succ,Rat.pow_zero,Rat.pow_zero]
  show 1*((y-x)*1)≤1*y-1*x;grind
 |m+1=>by
  have ih:=pow_step_lo h0 h m
  have h1:=rq_pow_mono h0 h (m+1)
  have h2:=Rat.mul_le_mul_of_nonneg_right ih h0
  have h3:=Rat.mul_le_mul_of_nonneg_right h1 (show 0≤y-x by grind)
  rw[Rat.pow_succ y (m+1),Rat.pow_succ x (m+1),Rat.natCast_add (m+1) 1]
  show(((m+1:Nat):Rat)+1)*_≤_
  rw[Rat.pow_succ x m]at h1 h2 h3⊢
  generalize y^(m+1)=p at*
  generalize ((m+1:Nat):Rat)=n at*
  generalize x^m=q at*
  have e1:(p-q*x)*x=p*x-q*x*x:=by grind
  have e2:n*((y-x)*q)*x=n*((y-x)*(q*x)):=by grind
  rw[e1,e2]at h2
  have e3:(n+1)*((y-x)*(q*x))=n*((y-x)*(q*x))+(y-x)*(q*x):=by grind
  rw[e3]
  clear e1 e2 e3 ih
  generalize n*((y-x)*(q*x))=z at*
  grind
theorem atA_step_hi {x y:Rat}(h0:0≤x) (h:x≤y) (hy:y≤1):∀K,(atA y K-atA x K)*(1-y*y)≤(y-x)*(1-y^(2*K))
 |0=>by
  rw[show 2*0=0 from rfl,Rat.pow_zero]
  show(0-0)*_≤(y-x)*(1-1);grind
 |K+1=>by
  have ih:=atA_step_hi h0 h hy K
  have h1:=pow_step_hi h0 h (2*K)
  have hi:=rq_inv (2*K+1) (by omega)
  have hi0:=rq_inv_nonneg (2*K+1)
  have h2:=Rat.mul_le_mul_of_nonneg_right h1 hi0
  have yy:0≤1-y*y:=by have:=rq_mul_le (show 0≤y by grind) hy (show 0≤y by grind) hy;grind
  rw[atA_succ,atA_succ,show 2*(K+1)=2*K+1+1 by omega,Rat.pow_succ y (2*K+1)]
  have e:y^(2*K+1)=y^(2*K)*y:=Rat.pow_succ y (2*K)
  generalize ((2*K+1:Nat):Rat)=n at*
  generalize y^(2*K)=q at*
  generalize y^(2*K+1)=p at*
  generalize x^(2*K+1)=r at*
  have e2:n*((y-x)*q)*n⁻¹=(y-x)*q*(n⁻¹*n):=by grind
  rw[e2,hi,Rat.mul_one]at h2
  have h3:=Rat.mul_le_mul_of_nonneg_right h2 yy
  have e4:(p-r)*n⁻¹=p*n⁻¹-r*n⁻¹:=by grind
  rw[e4]at h3
  generalize p*n⁻¹=s at*
  generalize r*n⁻¹=t at*
  generalize atA y K=u at*
  generalize atA x K=v at*
  rw[e]
  clear e e2 e4 h2 h1 hi hi0
  grind
theorem atA_step_lo {x y:Rat}(h0:0≤x) (h:x≤y) (hy:y≤1):∀K,(y-x)*(1-x^(2*K))≤(atA y K-atA x K)*(1-x*x)
 |0=>by
  rw[show 2*0=0 from rfl,Rat.pow_zero]
  show(y-x)*(1-1)≤(0-0)*_;grind
 |K+1=>by
  have ih:=atA_step_lo h0 h hy K
  have h1:=pow_step_lo h0 h (2*K)
  have hi:=rq_inv (2*K+1) (by omega)
  have hi0:=rq_inv_nonneg (2*K+1)
  have h2:=Rat.mul_le_mul_of_nonneg_right h1 hi0
  have xx:0≤1-x*x:=by have:=rq_mul_le h0 (show x≤1 by grind) h0 (show x≤1 by grind);grind
  rw[atA_succ,atA_succ,show 2*(K+1)=2*K+1+1 by omega,Rat.pow_succ x (2*K+1)]
  have e:x^(2*K+1)=x^(2*K)*x:=Rat.pow_succ x (2*K)
  generalize ((2*K+1:Nat):Rat)=n at*
  generalize x^(2*K)=q at*
  generalize y^(2*K+1)=p at*
  generalize x^(2*K+1)=r at*
  have e2:n*((y-x)*q)*n⁻¹=(y-x)*q*(n⁻¹*n):=by grind
  rw[e2,hi,Rat.mul_one]at h2
  have h3:=Rat.mul_le_mul_of_nonneg_right h2 xx
  have e4:(p-r)*n⁻¹=p*n⁻¹-r*n⁻¹:=by grind
  rw[e4]at h3
  generalize p*n⁻¹=s at*
  generalize r*n⁻¹=t at*
  generalize atA y K=u at*
  generalize atA x K=v at*
  rw[e]
  clear e e2 e4 h2 h1 hi hi0
  grind
end Go.Proofs.YtffaefjkpipjnaaGreatDoor
namespace Go.Proofs.YtffaefjkpipjnaaGreatDoor
set_option maxRecDepth 100000
set_option linter.unusedVariables false
theorem step_sq {T δ:Rat}(hT:4≤9*T) (d0:0≤δ) (d1:3*δ≤1):T≤(T-2*(δ*δ))*(1+9*(δ*δ)):=by
 have q0:0≤δ*δ:=Rat.mul_nonneg d0 d0
 have q1:9*(δ*δ)≤1:=by
  have:=rq_mul_le (a:=3*δ) (b:=1) (c:=3*δ) (d:=1) (by grind) d1 (by grind) d1
  grind
 have q2:0≤(δ*δ)*(9*T-2-18*(δ*δ)):=Rat.mul_nonneg q0 (by grind)
 generalize δ*δ=s at*
 grind
theorem sides {x y:Rat}(x0:0≤x) (hxy:x≤y) (y1:3*y≤1):4≤9*((1-y)*(1-y)*(1+x))∧4≤9*((1-x)*(1-x)*(1+y))∧8≤9*(1-y*y)∧8≤9*(1-x*x):=by
 have hy:2≤3*(1-y):=by grind
 have hx:2≤3*(1-x):=by grind
 have p1:(2:Rat)*2≤3*(1-y)*(3*(1-y)):=rq_mul_le (by decide) hy (by decide) hy
 have p2:(2:Rat)*2≤3*(1-x)*(3*(1-x)):=rq_mul_le (by decide) hx (by decide) hx
 have p3:3*y*(3*y)≤1*1:=rq_mul_le (by grind) y1 (by grind) y1
 have p4:3*x*(3*x)≤1*1:=rq_mul_le (by grind) (show 3*x≤1 by grind) (by grind) (show 3*x≤1 by grind)
 have a1:0≤(1-y)*(1-y)*x:=Rat.mul_nonneg (Rat.mul_nonneg (by grind) (by grind)) x0
 have a2:0≤(1-x)*(1-x)*y:=Rat.mul_nonneg (Rat.mul_nonneg (by grind) (by grind)) (by grind)
 refine⟨?_,?_,?_,?_⟩<;>grind
theorem pow_tiny {x:Rat}(x0:0≤x) (x1:3*x≤1):∀K:Nat,((K:Rat)+1)*x^(2*K)≤1
 |0=>by rw[show 2*0=0 from rfl,Rat.pow_zero];show((0:Rat)+1)*1≤1;grind
 |K+1=>by
  have ih:=pow_tiny x0 x1 K
  have p0:=rq_pow_nonneg x0 (2*K)
  have p3:3*x*(3*x)≤1*1:=rq_mul_le (by grind) x1 (by grind) x1
  have n0:=rq_nat_nonneg K
  rw[show 2*(K+1)=2*K+1+1 by omega,Rat.pow_succ,Rat.pow_succ,Rat.natCast_add]
  show((K:Rat)+1+1)*_≤1
  generalize x^(2*K)=p at*
  generalize (K:Rat)=n at*
  have q0:0≤n*p:=Rat.mul_nonneg n0 p0
  have q1:(n+1+1)*p≤2:=by grind
  have q2:=rq_mul_le (a:=(n+1+1)*p) (b:=2) (c:=x*x) (d:=1*(1/9)) (Rat.mul_nonneg (by grind) p0) q1 (Rat.mul_nonneg x0 x0) (by grind)
  grind
theorem pow_le_one' {x:Rat}(x0:0≤x) (x1:3*x≤1) (K:Nat):x^(2*K)≤1:=rq_pow_le_one x0 (by grind) _
theorem atA_exp_le {b:Rat}(b0:0≤b) (b1:3*b≤1) (K:Nat):XL (2*atA b K) (1-b) (1+b):=by
 have h:=XL.tele (φ:=fun x=>2*atA x K) (α:=fun x=>1+x) (β:=fun x=>1-x) (C:=9) (b:=b) (by decide) b0 (fun x _ _=>by grind) (fun x _ _=>by grind) (by
  intro x y x0 hxy yb
  have y1:3*y≤1:=by grind
  obtain⟨s1,s2,s3,s4⟩:=sides x0 hxy y1
  have up:=atA_step_hi x0 hxy (by grind) K
  have lo:=atA_step_lo x0 hxy (by grind) K
  have yk:=rq_pow_nonneg (show 0≤y by grind) (2*K)
  have xk:=pow_le_one' x0 (show 3*x≤1 by grind) K
  generalize y^(2*K)=p at*
  generalize x^(2*K)=r at*
  obtain⟨δ,hδ⟩:∃δ,y-x=δ:=⟨_,rfl⟩
  obtain⟨g,hg⟩:∃g,atA y K-atA x K=g:=⟨_,rfl⟩
  rw[hδ,hg]at up lo
  have e1:2*atA y K-2*atA x K=2*g:=by grind
  rw[e1,hδ]
  have d0:0≤δ:=by grind
  have d1:3*δ≤1:=by grind
  have u1:g*(1-y*y)≤δ:=by
   have:=Rat.mul_nonneg d0 yk
   grind
  have g0:0≤g:=by
   have l1:0≤δ*(1-r):=Rat.mul_nonneg d0 (by grind)
   refine rq_cancel (show 0<1-x*x by grind) ?_
   rw[Rat.zero_mul]
   exact Rat.le_trans l1 lo
  have g1:2*g<1:=by
   have:=Rat.mul_le_mul_of_nonneg_left s3 g0
   grind
  have k:=(XL.pos_lin (q:=2*g) (by grind) g1).scale (r:=(1+y)*(1-x)*(1+9*(δ*δ))) (Rat.mul_pos (Rat.mul_pos (by grind) (by grind)) (by have:=Rat.mul_nonneg d0 d0;grind))
  rw[Rat.one_mul]at k
  refine k.down (Rat.mul_pos (by grind) (by grind)) ?_
  have sq:=step_sq s1 d0 d1
  have yy:0<1-y*y:=by grind
  refine rq_cancel yy ?_
  have w1:1-y*y-2*δ≤(1-2*g)*(1-y*y):=by grind
  have w2:0≤(1+y)*((1-x)*(1+9*(δ*δ))):=Rat.mul_nonneg (by grind) (Rat.mul_nonneg (by grind) (by have:=Rat.mul_nonneg d0 d0;grind))
  have w3:=Rat.mul_le_mul_of_nonneg_right w1 w2
  have w4:=Rat.mul_le_mul_of_nonneg_right sq (show 0≤1+y by grind)
  have e2:(1-y)*(1-y)*(1+x)*(1+y)=(1+x)*(1-y)*(1-y*y):=by grind
  have e3:((1-y)*(1-y)*(1+x)-2*(δ*δ))=(1-y*y-2*δ)*(1-x):=by rw[←hδ];grind
  rw[e2,e3]at w4
  refine Rat.le_trans w4 ?_
  have e4:(1-y*y-2*δ)*(1-x)*(1+9*(δ*δ))*(1+y)=(1-y*y-2*δ)*((1+y)*((1-x)*(1+9*(δ*δ)))):=by grind
  have e5:(1-2*g)*((1+y)*(1-x)*(1+9*(δ*δ)))*(1-y*y)=(1-2*g)*(1-y*y)*((1+y)*((1-x)*(1+9*(δ*δ)))):=by grind
  rw[e4,e5]
  exact w3)
 rw[atA_zero]at h
 have e1:2*atA b K-2*0=2*atA b K:=by grind
 have e2:(1+0)*(1-b)=1-b:=by grind
 have e3:(1+b)*(1-0)=1+b:=by grind
 rwa [e1,e2,e3]at h
theorem atA_exp_ge0 {b:Rat}(b0:0≤b) (b1:3*b≤1) (K:Nat):XL (-(2*atA b K)-b^(2*K)) (1+b) (1-b):=by
 obtain⟨η,hη⟩:∃η,b^(2*K)=η:=⟨_,rfl⟩
 have η0:0≤η:=by rw[←hη];exact rq_pow_nonneg b0 _
 have h:=XL.tele (φ:=fun x=> -(2*atA x K)-3*η*x) (α:=fun x=>1-x) (β:=fun x=>1+x) (C:=9) (b:=b) (by decide) b0 (fun x _ _=>by grind) (fun x _ _=>by grind) (by
  intro x y x0 hxy yb
  have y1:3*y≤1:=by grind
  obtain⟨s1,s2,s3,s4⟩:=sides x0 hxy y1
  have lo:=atA_step_lo x0 hxy (by grind) K
  have xk:x^(2*K)≤η:=by rw[←hη];exact rq_pow_mono x0 (by grind) _
  have xk1:=pow_le_one' x0 (show 3*x≤1 by grind) K
  generalize x^(2*K)=r at*
  obtain⟨δ,hδ⟩:∃δ,y-x=δ:=⟨_,rfl⟩
  obtain⟨g,hg⟩:∃g,atA y K-atA x K=g:=⟨_,rfl⟩
  rw[hδ,hg]at lo
  have e1: -(2*atA y K)-3*η*y-(-(2*atA x K)-3*η*x)= -(2*g+3*η*δ):=by grind
  rw[e1,hδ]
  have d0:0≤δ:=by grind
  have d1:3*δ≤1:=by grind
  have dη:0≤η*δ:=Rat.mul_nonneg η0 d0
  have g0:0≤g:=by
   have l1:0≤δ*(1-r):=Rat.mul_nonneg d0 (by grind)
   refine rq_cancel (show 0<1-x*x by grind) ?_
   rw[Rat.zero_mul]
   exact Rat.le_trans l1 lo
  have u1:2*δ≤(2*g+3*η*δ)*(1-x*x):=by
   have a1:=Rat.mul_le_mul_of_nonneg_left xk d0
   have a2:=Rat.mul_le_mul_of_nonneg_left s4 dη
   grind
  have k:=(XL.neg_lin (q:=2*g+3*η*δ) (by grind)).scale (r:=(1-y)*(1+x)*(1+9*(δ*δ))) (Rat.mul_pos (Rat.mul_pos (by grind) (by grind)) (by have:=Rat.mul_nonneg d0 d0;grind))
  rw[Rat.one_mul]at k
  refine k.down (Rat.mul_pos (by grind) (by grind)) ?_
  generalize 2*g+3*η*δ=z at*
  have sq:=step_sq s2 d0 d1
  have xx:0<1-x*x:=by grind
  refine rq_cancel xx ?_
  have w1:1-x*x+2*δ≤(1+z)*(1-x*x):=by grind
  have w2:0≤(1+x)*((1-y)*(1+9*(δ*δ))):=Rat.mul_nonneg (by grind) (Rat.mul_nonneg (by grind) (by have:=Rat.mul_nonneg d0 d0;grind))
  have w3:=Rat.mul_le_mul_of_nonneg_right w1 w2
  have w4:=Rat.mul_le_mul_of_nonneg_right sq (show 0≤1+x by grind)
  have e2:(1-x)*(1-x)*(1+y)*(1+x)=(1-x)*(1+y)*(1-x*x):=by grind
  have e3:((1-x)*(1-x)*(1+y)-2*(δ*δ))=(1-x*x+2*δ)*(1-y):=by rw[←hδ];grind
  rw[e2,e3]at w4
  refine Rat.le_trans w4 ?_
  have e4:(1-x*x+2*δ)*(1-y)*(1+9*(δ*δ))*(1+x)=(1-x*x+2*δ)*((1+x)*((1-y)*(1+9*(δ*δ)))):=by grind
  have e5:(1+z)*((1-y)*(1+x)*(1+9*(δ*δ)))*(1-x*x)=(1+z)*(1-x*x)*((1+x)*((1-y)*(1+9*(δ*δ)))):=by grind
  rw[e4,e5]
  exact w3)
 rw[atA_zero]at h
 have e2:(1-0)*(1+b)=1+b:=by grind
 have e3:(1-b)*(1+0)=1-b:=by grind
 rw[e2,e3]at h
 refine h.mono ?_
 have:=Rat.mul_nonneg η0 (show 0≤1-3*b by grind)
 grind
theorem atA_exp_ge {b q:Rat}(b0:0≤b) (b1:3*b≤1) (h:∀K,2*atA b K≤q):XL (-q) (1+b) (1-b):=by
 refine XL.close (by grind) (by grind) (fun d' hd'=>?_)
 obtain⟨n,hn⟩:=rq_arch (c:=d') (r:=d'-(1-b)) (by grind)
 have t:=pow_tiny b0 b1 n
 have p0:=rq_pow_nonneg b0 (2*n)
 have k:=atA_exp_ge0 b0 b1 n
 have hK:=h n
 have n0:=rq_nat_nonneg n
 generalize b^(2*n)=η at*
 generalize (n:Rat)=m at*
 have g:η*d'≤d'-(1-b):=by
  have a:=Rat.mul_le_mul_of_nonneg_right (show m*d'≤(m+1)*d' by grind) p0
  have a1:=Rat.mul_le_mul_of_nonneg_left (Rat.le_of_lt hn) p0
  have a2:=Rat.mul_le_mul_of_nonneg_right t (show 0≤d'-(1-b)by grind)
  have a3:=Rat.mul_nonneg p0 (show 0≤d'-(1-b)by grind)
  grind
 have η1:η<1:=by
  rcases rq_total 1 η with h1|h1
  ·have:=Rat.mul_le_mul_of_nonneg_right h1 (show 0≤d' by grind)
   grind
  ·rcases Rat.le_iff_lt_or_eq.1 h1 with h2|h2
   ·exact h2
   ·rw[h2]at g;grind
 have k2:=(XL.pos_lin (q:=η) p0 η1).mul (k.mono (p:= -q-η) (by grind))
 have e:η+(-q-η)= -q:=by grind
 rw[e,Rat.one_mul]at k2
 have k3:XL (-q) ((1+b)*(1-η)) (d'*(1-η)):=by
  have e2:(1-η)*(1+b)=(1+b)*(1-η):=Rat.mul_comm _ _
  rw[e2]at k2
  exact k2.up (by grind)
 exact XL.unscale (by grind) (by grind) (by grind) k3
end Go.Proofs.YtffaefjkpipjnaaGreatDoor
