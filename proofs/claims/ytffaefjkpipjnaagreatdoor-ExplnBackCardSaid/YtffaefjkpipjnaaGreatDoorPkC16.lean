/- Rounding keeps the order; two intervals that hold one value are rounded alike: plainly. Conditions: none. -/
import Derived.Test.YtffaefjkpipjnaaGreatDoorPkC15
import Derived.Test.YtffaefjkpipjnaaGreatDoorPkC14
import Derived.Test.YtffaefjkpipjnaaGreatDoorPkC05
import Derived.Test.YtffaefjkpipjnaaGreatDoorPkC12
import Derived.Test.YtffaefjkpipjnaaGreatDoorPkC13
import Derived.Test.YtffaefjkpipjnaaGreatDoorPkC01
import Derived.Deep.RegionHeld3
import Derived.Deep.CutBlock
import Derived.StillTailTactics
namespace Go.Proofs.YtffaefjkpipjnaaGreatDoor
set_option linter.unusedVariables false
set_option linter.unusedSimpArgs false
set_option maxRecDepth 100000
open Go.RowKit
def szB (n:Bool) (M:Nat) (E:Int) (dir:Int):Nat:=
 if 1023<topD ⟨n,M,E⟩then(if decide (dir=0)||upB dir n then 9218868437227405312 else 9218868437227405311)else if topD ⟨n,M,E⟩< -1075 then(if upB dir n then 1 else 0)else sizeB n M E false dir
theorem toB_sz (n:Bool) (M:Nat) (E dir:Int):(toB n M E false dir).1=signedB (szB n M E dir) n:=by
 unfold toB szB overB underB
 split
 ·rfl
 ·split<;>rfl
theorem away_mono {dir:Int}{n odd h b h' b':Bool}(hh:h=true→h'=true) (hb:h=h'→b=true→b'=true) (ha:awayB dir n odd h b=true):awayB dir n odd h' b'=true:=by
 unfold awayB at ha⊢
 generalize upB dir n=u at*
 by_cases hd:dir=0
 ·rw[if_pos hd]at ha⊢
  cases h<;>cases h'<;>cases b<;>cases b'<;>cases odd<;>simp_all
 ·rw[if_neg hd]at ha⊢
  cases h<;>cases h'<;>cases b<;>cases b'<;>cases u<;>simp_all
theorem parts_mono {M M' q q':Nat}{E E' u:Int}{h b h' b':Bool}(hp:partsP M E u=(q,h,b)) (hp':partsP M' E' u=(q',h',b')) (hxy:(M:Rat)*pw E≤(M':Rat)*pw E'):
 2*q+hb h≤2*q'+hb h'∧(2*q+hb h=2*q'+hb h'→b=true→b'=true):=by
 obtain⟨a1,a2,a3,a4⟩:=parts_val hp
 obtain⟨c1,c2,c3,c4⟩:=parts_val hp'
 have hp:=pw_pos (1-u)
 have hxy2:=Rat.mul_le_mul_of_nonneg_right hxy (Rat.le_of_lt hp)
 constructor
 ·have e:((2*q'+hb h':Nat):Rat)+1=((2*q'+hb h'+1:Nat):Rat):=by rw[Rat.natCast_add (2*q'+hb h') 1];rfl
  have h5:((2*q+hb h:Nat):Rat)<((2*q'+hb h'+1:Nat):Rat):=by rw[←e];grind
  have:=Rat.natCast_lt_natCast.1 h5
  omega
 ·intro he hb1
  cases b'
  ·have h5:=a4 hb1
   have h6:=c3 rfl
   rw[he]at h5
   exfalso;grind
  ·rfl
theorem hb_cases (h:Bool):(h=true∧hb h=1)∨(h=false∧hb h=0):=by cases h;exact .inr ⟨rfl,rfl⟩;exact .inl ⟨rfl,rfl⟩
theorem whole_mono {n:Bool}{M M':Nat}{E E' u dir:Int}(hxy:(M:Rat)*pw E≤(M':Rat)*pw E'):(wholeP n M E false dir u).1≤(wholeP n M' E' false dir u).1:=by
 obtain⟨q,h,b,hp⟩:∃q h b,partsP M E u=(q,h,b):=⟨_,_,_,rfl⟩
 obtain⟨q',h',b',hp'⟩:∃q h b,partsP M' E' u=(q,h,b):=⟨_,_,_,rfl⟩
 obtain⟨m1,m2⟩:=parts_mono hp hp' hxy
 unfold wholeP
 rw[hp,hp']
 dsimp only
 rw[Bool.or_false,Bool.or_false]
 have t1:=hb_cases h
 have t2:=hb_cases h'
 by_cases hq:q=q'
 ·subst hq
  have hh:h=true→h'=true:=fun e=>by
   rcases t1 with⟨x1,x2⟩|⟨x1,x2⟩
   ·rcases t2 with⟨y1,y2⟩|⟨y1,y2⟩
    ·exact y1
    ·exfalso;omega
   ·rw[x1]at e;cases e
  have hbb:h=h'→b=true→b'=true:=fun e=>m2 (by rw[e])
  by_cases ha:awayB dir n (decide (q%2=1)) h b=true
  ·rw[if_pos ha,if_pos (away_mono hh hbb ha)];exact Nat.le_refl _
  ·rw[if_neg ha];omega
 ·have hlt:q<q':=by
   rcases t1 with⟨x1,x2⟩|⟨x1,x2⟩<;>rcases t2 with⟨y1,y2⟩|⟨y1,y2⟩<;>omega
  split<;>split<;>omega
theorem top_in {n:Bool}{M:Nat}{E:Int}(h0:M≠0):pw (topD ⟨n,M,E⟩)≤(M:Rat)*pw E∧(M:Rat)*pw E<pw (topD ⟨n,M,E⟩+1):=by
 have a1:((2^(bitN M-1):Nat):Rat)≤(M:Rat):=Rat.natCast_le_natCast.2 (lt_bitN.1 (by have:=bitN_pos h0;omega))
 have a2:(M:Rat)<((2^bitN M:Nat):Rat):=Rat.natCast_lt_natCast.2 (bitN_lt M)
 have hp:=pw_pos E
 have b1:=Rat.mul_le_mul_of_nonneg_right a1 (Rat.le_of_lt hp)
 have b2:=Rat.mul_lt_mul_of_pos_right a2 hp
 rw[←pw_nat,←pw_add]at b1 b2
 have hb:=bitN_pos h0
 unfold topD
 dsimp only
 constructor
 ·rw[show(bitN M:Int)-1+E=((bitN M-1:Nat):Int)+E by omega];exact b1
 ·rw[show(bitN M:Int)-1+E+1=((bitN M:Nat):Int)+E by omega];exact b2
theorem top_mono {n n':Bool}{M M':Nat}{E E':Int}(h0:M≠0) (h0':M'≠0) (hxy:(M:Rat)*pw E≤(M':Rat)*pw E'):topD ⟨n,M,E⟩≤topD ⟨n',M',E'⟩:=by
 have h1:=(top_in (n:=n) (E:=E) h0).1
 exact(top_ge (n:=n') (show pw (topD ⟨n,M,E⟩)≤(M':Rat)*pw E' by grind)).1
theorem size_ge {n:Bool}{M:Nat}{E dir:Int}(h0:M≠0) (hu:unitB (topD ⟨n,M,E⟩)≠-1074):4503599627370496+(unitB (topD ⟨n,M,E⟩)+1074).toNat*4503599627370496≤sizeB n M E false dir:=by
 have:=(whole_le (n:=n) (more:=false) (dir:=dir) h0 (rfl:topD ⟨n,M,E⟩=_)).2 hu
 unfold sizeB
 omega
theorem size_le {n:Bool}{M:Nat}{E dir:Int}(h0:M≠0):sizeB n M E false dir≤9007199254740992+(unitB (topD ⟨n,M,E⟩)+1074).toNat*4503599627370496:=by
 have:=(whole_le (n:=n) (more:=false) (dir:=dir) h0 (rfl:topD ⟨n,M,E⟩=_)).1
 unfold sizeB
 omega
theorem size_mono {n:Bool}{M M':Nat}{E E' dir:Int}(h0:M≠0) (h0':M'≠0) (hxy:(M:Rat)*pw E≤(M':Rat)*pw E'):sizeB n M E false dir≤sizeB n M' E' false dir:=by
 have ht:=top_mono (n:=n) (n':=n) h0 h0' hxy
 have hu:unitB (topD ⟨n,M,E⟩)≤unitB (topD ⟨n,M',E'⟩):=by unfold unitB;omega
 by_cases he:unitB (topD ⟨n,M,E⟩)=unitB (topD ⟨n,M',E'⟩)
 ·unfold sizeB
  rw[he]
  exact Nat.add_le_add_right (whole_mono hxy) _
 ·have hl: -1074≤unitB (topD ⟨n,M,E⟩):=by unfold unitB;omega
  have h1:=size_le (n:=n) (E:=E) (dir:=dir) h0
  have h2:=size_ge (n:=n) (E:=E') (dir:=dir) h0' (by omega)
  generalize unitB (topD ⟨n,M,E⟩)=a at*
  generalize unitB (topD ⟨n,M',E'⟩)=b at*
  have h3:(a+1074).toNat+1≤(b+1074).toNat:=by omega
  have h4:=Nat.mul_le_mul_right 4503599627370496 h3
  rw[Nat.add_mul]at h4
  omega
theorem size_up {n:Bool}{M:Nat}{E dir:Int}(h0:M≠0) (hd:upB dir n=true):1≤sizeB n M E false dir:=by
 obtain⟨q,h,b,hp⟩:∃q h b,partsP M E (unitB (topD ⟨n,M,E⟩))=(q,h,b):=⟨_,_,_,rfl⟩
 obtain⟨a1,a2,a3,a4⟩:=parts_val hp
 unfold sizeB wholeP
 rw[hp]
 dsimp only
 by_cases hq:q=0
 ·have hpos:0<(M:Rat)*pw E*pw (1-unitB (topD ⟨n,M,E⟩)):=Rat.mul_pos (Rat.mul_pos (Rat.natCast_pos.2 (Nat.pos_of_ne_zero h0)) (pw_pos E)) (pw_pos _)
  have hor:(h||b)=true:=by
   cases h
   ·cases b
    ·have:=a3 rfl
     rw[this,hq]at hpos
     exact absurd hpos (by decide)
    ·rfl
   ·rfl
  have hd0:dir≠0:=fun e=>by rw[e]at hd;cases n<;>cases hd
  have ha:awayB dir n (decide (q%2=1)) h (b||false)=true:=by
   unfold awayB
   rw[if_neg hd0,hd,Bool.or_false,hor];rfl
  rw[if_pos ha]
  omega
 ·omega
theorem size_down {n:Bool}{M:Nat}{E dir:Int}(h0:M≠0) (ht:topD ⟨n,M,E⟩≤1023) (hd:dir≠0) (hu:upB dir n=false):sizeB n M E false dir≤9218868437227405311:=by
 have h1:=parts_bits (n:=n) h0 (rfl:topD ⟨n,M,E⟩=_)
 have hu2:unitB (topD ⟨n,M,E⟩)=max (topD ⟨n,M,E⟩-52) (-1074):=rfl
 have h3:bitN (partsP M E (unitB (topD ⟨n,M,E⟩))).1≤53:=by omega
 have h4:=bits53 h3
 have hw:(wholeP n M E false dir (unitB (topD ⟨n,M,E⟩))).1=(partsP M E (unitB (topD ⟨n,M,E⟩))).1:=by
  unfold wholeP awayB
  dsimp only
  rw[if_neg hd,hu,Bool.and_false,if_neg (by decide),Nat.add_zero]
 unfold sizeB
 rw[hw]
 have h5:unitB (topD ⟨n,M,E⟩)≤971:=by omega
 generalize unitB (topD ⟨n,M,E⟩)=u at*
 generalize (partsP M E u).1=q at*
 omega
theorem size_inf {n:Bool}{M:Nat}{E dir:Int}(h0:M≠0) (ht:topD ⟨n,M,E⟩≤1023):sizeB n M E false dir≤9218868437227405312:=by
 have h1:=size_le (n:=n) (E:=E) (dir:=dir) h0
 have h5:unitB (topD ⟨n,M,E⟩)≤971:=by unfold unitB;omega
 generalize unitB (topD ⟨n,M,E⟩)=u at*
 omega
theorem sz_mono {n:Bool}{M M':Nat}{E E' dir:Int}(h0:M≠0) (h0':M'≠0) (hxy:(M:Rat)*pw E≤(M':Rat)*pw E'):szB n M E dir≤szB n M' E' dir:=by
 have ht:=top_mono (n:=n) (n':=n) h0 h0' hxy
 unfold szB
 by_cases c1:1023<topD ⟨n,M,E⟩
 ·rw[if_pos c1,if_pos (show 1023<topD ⟨n,M',E'⟩by omega)];exact Nat.le_refl _
 rw[if_neg c1]
 by_cases c2:topD ⟨n,M,E⟩< -1075
 ·rw[if_pos c2]
  by_cases d1:1023<topD ⟨n,M',E'⟩
  ·rw[if_pos d1]
   split<;>split<;>omega
  rw[if_neg d1]
  by_cases d2:topD ⟨n,M',E'⟩< -1075
  ·rw[if_pos d2];exact Nat.le_refl _
  rw[if_neg d2]
  split
  ·rename_i hu
   exact size_up h0' hu
  ·exact Nat.zero_le _
 rw[if_neg c2]
 by_cases d1:1023<topD ⟨n,M',E'⟩
 ·rw[if_pos d1]
  split
  ·exact size_inf h0 (by omega)
  ·rename_i hd
   simp at hd
   exact size_down h0 (by omega) hd.1 hd.2
 rw[if_neg d1,if_neg (show¬topD ⟨n,M',E'⟩< -1075 by omega)]
 exact size_mono h0 h0' hxy
structure End (n:Bool) (M:Nat) (E dir:Int) (b:Nat) (f:Int):Prop where
 ne:M≠0
 tob:toB n M E false dir=(b,f)
 ix:f≠0
theorem flag_of {n:Bool}{M:Nat}{E dir:Int}{b:Nat}{f:Int}(o:End n M E dir b f):(f=5∧(1023<topD ⟨n,M,E⟩∨szB n M E dir=9218868437227405312))∨(f=3∧topD ⟨n,M,E⟩< -1022∧szB n M E dir≠9218868437227405312)∨(f=1∧-1022≤topD ⟨n,M,E⟩∧topD ⟨n,M,E⟩≤1023∧szB n M E dir≠9218868437227405312):=by
 obtain⟨h0,ht,hx⟩:=o
 unfold toB at ht
 unfold szB
 by_cases c1:1023<topD ⟨n,M,E⟩
 ·rw[if_pos c1]at ht
  injection ht with _ h2
  exact .inl ⟨h2.symm,.inl c1⟩
 rw[if_neg c1]at ht⊢
 by_cases c2:topD ⟨n,M,E⟩< -1075
 ·rw[if_pos c2]at ht⊢
  injection ht with _ h2
  refine .inr (.inl ⟨h2.symm,by omega,?_⟩)
  split<;>decide
 rw[if_neg c2]at ht⊢
 injection ht with _ h2
 unfold flagB at h2
 by_cases c3:sizeB n M E false dir=9218868437227405312
 ·rw[if_pos c3]at h2
  exact .inl ⟨h2.symm,.inr c3⟩
 rw[if_neg c3]at h2
 split at h2
 ·split at h2
  ·exact .inr (.inl ⟨h2.symm,by omega,c3⟩)
  ·exact .inr (.inr ⟨h2.symm,by omega,by omega,c3⟩)
 ·exact absurd h2.symm hx
theorem signedB_inj {a b:Nat}{n:Bool}(h:signedB a n=signedB b n):a=b:=by
 unfold signedB at h
 cases n
 ·exact h
 ·rw[if_pos rfl,if_pos rfl]at h;omega
theorem End.sz {n:Bool}{M:Nat}{E dir:Int}{b:Nat}{f:Int}(o:End n M E dir b f):b=signedB (szB n M E dir) n:=by
 have:=toB_sz n M E dir
 rw[o.tob]at this
 exact this
theorem end_uniq {n:Bool}{M1 M2 M3 M4 b b':Nat}{E1 E2 E3 E4 dir f f':Int}(o1:End n M1 E1 dir b f) (o2:End n M2 E2 dir b f) (o3:End n M3 E3 dir b' f') (o4:End n M4 E4 dir b' f')
 (h14:(M1:Rat)*pw E1≤(M4:Rat)*pw E4) (h32:(M3:Rat)*pw E3≤(M2:Rat)*pw E2):b=b'∧f=f':=by
 have e12:=signedB_inj (o1.sz.symm.trans o2.sz)
 have e34:=signedB_inj (o3.sz.symm.trans o4.sz)
 have m1:=sz_mono (n:=n) (dir:=dir) o1.ne o4.ne h14
 have m2:=sz_mono (n:=n) (dir:=dir) o3.ne o2.ne h32
 have es:szB n M1 E1 dir=szB n M3 E3 dir:=by omega
 have t1:=top_mono (n:=n) (n':=n) o1.ne o4.ne h14
 have t2:=top_mono (n:=n) (n':=n) o3.ne o2.ne h32
 refine⟨by rw[o1.sz,o3.sz,es],?_⟩
 have g1:=flag_of o1
 have g2:=flag_of o2
 have g3:=flag_of o3
 have g4:=flag_of o4
 rw[←e12]at g2
 rw[←es]at g3
 rw[←e34,←es]at g4
 omega
end Go.Proofs.YtffaefjkpipjnaaGreatDoor

namespace Go.Proofs.YtffaefjkpipjnaaGreatDoor
set_option maxRecDepth 100000
open Go.RowKit Go.ChangeShapes Go.WideShapes
theorem bitN_at {n k:Nat}(h1:2^k≤n) (h2:n<2^(k+1)):bitN n=k+1:=by
 have a:=lt_bitN.2 h1
 have b:=bitN_le.2 h2
 omega
theorem bareD_at {n:Bool}{M m k:Nat}{E:Int}(h:M=2^k*(2*m+1)) (h1: -2147483648≤E) (h2:E≤2147483648):bareD ⟨n,M,E⟩=⟨n,2*m+1,E+k⟩:=by
 have h0:M≠0:=by rw[h];exact Nat.mul_ne_zero (Nat.ne_of_gt (Nat.pow_pos (by omega))) (by omega)
 rw[bareD_pos (show(⟨n,M,E⟩:Dn).m≠0 from h0)]
 simp only
 rw[low2_uniq h,odd_eq h,show cutE E=E by unfold cutE;omega]
theorem makeQ_at {n:Bool}{M m k:Nat}{E:Int}(h:M=2^k*(2*m+1)) (h1: -1073741824≤E) (h2:E+k≤1073741824):makeQ ⟨n,M,E⟩=(n,2*m+1,E+k,0):=by
 unfold makeQ
 rw[bareD_at h (by omega) (by omega)]
 simp only
 rw[if_pos (by unfold fitsE;rw[decide_eq_true (by omega),decide_eq_true (by omega)];rfl)]
theorem b1:bitN 1=0+1:=bitN_at (by decide) (by decide)
theorem b52:bitN 4503599627370497=52+1:=bitN_at (by decide) (by decide)
theorem b53:bitN 9007199254740991=52+1:=bitN_at (by decide) (by decide)
theorem b54:bitN 18014398509481983=53+1:=bitN_at (by decide) (by decide)
theorem t1 (n:Bool):topD ⟨n,1,0⟩=0:=by unfold topD;simp only[b1];rfl
theorem t52 (n:Bool):topD ⟨n,4503599627370497,-52⟩=0:=by unfold topD;simp only[b52];rfl
theorem t53 (n:Bool):topD ⟨n,9007199254740991,-53⟩= -1:=by unfold topD;simp only[b53];rfl
theorem t54 (n:Bool):topD ⟨n,18014398509481983,-54⟩= -1:=by unfold topD;simp only[b54];rfl
theorem x1 (n:Bool):exactB n 1 0=(signedB 4607182418800017408 n,true):=by unfold exactB;rw[t1];cases n<;>rfl
theorem x52 (n:Bool):exactB n 4503599627370497 (-52)=(signedB 4607182418800017409 n,true):=by unfold exactB;rw[t52];cases n<;>rfl
theorem x53 (n:Bool):exactB n 9007199254740991 (-53)=(signedB 4607182418800017407 n,true):=by unfold exactB;rw[t53];cases n<;>rfl
theorem dir_cases {dir:Int}(d0:0≤dir) (d3:dir≤3):dir=0∨dir=1∨dir=2∨dir=3:=by omega
def moreB (dir:Int) (neg:Bool):Nat:=if upB dir neg then 4607182418800017409 else 4607182418800017408
def lessB (dir:Int) (neg:Bool):Nat:=if decide (dir=0)||upB dir neg then 4607182418800017408 else 4607182418800017407
theorem whole1 {dir:Int}{n:Bool}(d0:0≤dir) (d3:dir≤3):wholeP n 1 0 true dir (-52)=(if upB dir n then 4503599627370497 else 4503599627370496,true):=by
 rcases dir_cases d0 d3 with rfl|rfl|rfl|rfl<;>cases n<;>rfl
theorem whole54 {dir:Int}{n:Bool}(d0:0≤dir) (d3:dir≤3):wholeP n 18014398509481983 (-54) true dir (-53)=(if decide (dir=0)||upB dir n then 9007199254740992 else 9007199254740991,true):=by
 rcases dir_cases d0 d3 with rfl|rfl|rfl|rfl<;>cases n<;>rfl
end Go.Proofs.YtffaefjkpipjnaaGreatDoor
namespace Go.Proofs.YtffaefjkpipjnaaGreatDoor
set_option maxRecDepth 100000
open Go.RowKit Go.ChangeShapes Go.WideShapes
theorem To_one {w:World}{v:Value}{neg:Bool}{dir:Int}(h:Num w v 1) (hT:Tab w) (d0:0≤dir) (d3:dir≤3):
 Calls Tryz.prog 55 #[.agg #[.bool neg,v,.int .i64 0],.bool true,.int .i64 dir] w (fun e w'=>e= .returned (.tuple #[L64 (signedB (moreB dir neg) neg),.int .u8 1,.int .i64 0])∧Below w.heap.size w w'):=by
 have hw:=whole1 (n:=neg) d0 d3
 unfold moreB
 obtain⟨u,hu⟩:∃u,upB dir neg=u:=⟨_,rfl⟩
 rw[hu]at hw⊢
 cases u
 ·exact To_more (M1:=1) (E1:=0) (q:=4503599627370496) (M2:=1) (E2:=0) (top:=0) (u:= -52) (c:=4607182418800017408) h hT (by decide) (by decide) (bareD_at (k:=0) (m:=0) rfl (by decide) (by decide)) rfl d0 d3 rfl (by rw[b1];decide) (t1 neg) (by decide) (by decide) rfl hw
   (by rw[show bitN 4503599627370496=52+1 from bitN_at (by decide) (by decide)];decide) (makeQ_at (k:=52) (m:=0) (by decide) (by decide) (by decide)) rfl (by rw[b1];decide) ⟨by decide,by decide⟩ (by rw[t1];decide) (by rw[t1];decide) (by decide) (x1 neg)
 ·exact To_more (M1:=1) (E1:=0) (q:=4503599627370497) (M2:=4503599627370497) (E2:= -52) (top:=0) (u:= -52) (c:=4607182418800017409) h hT (by decide) (by decide) (bareD_at (k:=0) (m:=0) rfl (by decide) (by decide)) rfl d0 d3 rfl (by rw[b1];decide) (t1 neg) (by decide) (by decide) rfl hw
   (by rw[b52];decide) (makeQ_at (k:=0) (m:=2251799813685248) (by decide) (by decide) (by decide)) rfl (by rw[b52];decide) ⟨by decide,by decide⟩ (by rw[t52];decide) (by rw[t52];decide) (by decide) (x52 neg)
theorem To_less {w:World}{v:Value}{neg:Bool}{dir:Int}(h:Num w v 18014398509481983) (hT:Tab w) (d0:0≤dir) (d3:dir≤3):
 Calls Tryz.prog 55 #[.agg #[.bool neg,v,.int .i64 (-54)],.bool true,.int .i64 dir] w (fun e w'=>e= .returned (.tuple #[L64 (signedB (lessB dir neg) neg),.int .u8 1,.int .i64 0])∧Below w.heap.size w w'):=by
 have hw:=whole54 (n:=neg) d0 d3
 unfold lessB
 obtain⟨u,hu⟩:∃u,(decide (dir=0)||upB dir neg)=u:=⟨_,rfl⟩
 rw[hu]at hw⊢
 cases u
 ·exact To_more (M1:=18014398509481983) (E1:= -54) (q:=9007199254740991) (M2:=9007199254740991) (E2:= -53) (top:= -1) (u:= -53) (c:=4607182418800017407) h hT (by decide) (by decide) (bareD_at (k:=0) (m:=9007199254740991) (by decide) (by decide) (by decide)) rfl d0 d3 rfl (by rw[b54];decide) (t54 neg) (by decide) (by decide) rfl hw
   (by rw[b53];decide) (makeQ_at (k:=0) (m:=4503599627370495) (by decide) (by decide) (by decide)) rfl (by rw[b53];decide) ⟨by decide,by decide⟩ (by rw[t53];decide) (by rw[t53];decide) (by decide) (x53 neg)
 ·exact To_more (M1:=18014398509481983) (E1:= -54) (q:=9007199254740992) (M2:=1) (E2:=0) (top:= -1) (u:= -53) (c:=4607182418800017408) h hT (by decide) (by decide) (bareD_at (k:=0) (m:=9007199254740991) (by decide) (by decide) (by decide)) rfl d0 d3 rfl (by rw[b54];decide) (t54 neg) (by decide) (by decide) rfl hw
   (by rw[show bitN 9007199254740992=53+1 from bitN_at (by decide) (by decide)];decide) (makeQ_at (k:=53) (m:=0) (by decide) (by decide) (by decide)) rfl (by rw[b1];decide) ⟨by decide,by decide⟩ (by rw[t1];decide) (by rw[t1];decide) (by decide) (x1 neg)
end Go.Proofs.YtffaefjkpipjnaaGreatDoor
namespace Go.Proofs.YtffaefjkpipjnaaGreatDoor
set_option maxRecDepth 100000
open Go.RowKit Go.ChangeShapes Go.WideShapes
theorem lit1 {w:World}{T:TypeId}{o:Obj}:Num ((w.alloc (.cells #[.int .u64 1] T (0,0))).alloc o) (.slice (some ⟨w.heap.size,0,none⟩) 1 1) 1:=by
 have h:RdN (w.alloc (.cells #[.int .u64 ((1:Nat):Int)] T (0,0))) (.slice (some ⟨w.heap.size,0,none⟩) 1 1) [1]:=rd_one (heap_alloc_new _ _) trivial
 exact(RdN.num1 h (by decide)).below (below_alloc _ _)
theorem lit54 {w:World}{T:TypeId}{o o':Obj}:Num (((w.alloc o).alloc o').alloc (.cells #[.int .u64 18014398509481983] T (0,0))) (.slice (some ⟨w.heap.size+1+1,0,none⟩) 1 1) 18014398509481983:=by
 have h:RdN (((w.alloc o).alloc o').alloc (.cells #[.int .u64 ((18014398509481983:Nat):Int)] T (0,0))) (.slice (some ⟨w.heap.size+1+1,0,none⟩) 1 1) [18014398509481983]:=rd_one (heap_new3 _ _ _ _) trivial
 exact RdN.num1 h (by decide)
def resB (cls:Int) (neg:Bool) (dir:Int):Nat×Int×Bool:=
 if dir<0∨3<dir then(0,0,false)else if cls=1 then(overB neg dir,5,true)else if cls=2 then(underB neg dir,3,true)
 else if cls=3 then(signedB (moreB dir neg) neg,1,true)else if cls=4 then(signedB (lessB dir neg) neg,1,true)else(0,0,false)
set_option maxHeartbeats 1000000 in
theorem Result_n {w:World}{cls dir f:Int}{neg ok:Bool}{b:Nat}(hT:Tab w) (hr:resB cls neg dir=(b,f,ok)):
 Calls Tryz.prog 29 #[.int .i64 cls,.bool neg,.int .i64 dir] w (fun e w'=>e= .returned (.tuple #[L64 b,.int .u8 f,.bool ok])∧Below w.heap.size w w'):=by
 unfold resB at hr
 by_cases hd:dir<0
 ·rw[if_pos (.inl hd)]at hr
  injection hr with z1 z2;injection z2 with z2 z3
  subst z1 z2 z3
  have d1:decide (dir<0)=true:=decide_eq_true hd
  go_enter Tryz.func29,Tryz.ntmps29
  go_wp2
  all_goals
   go_ret3
   exact⟨rfl,Below.refl _ _⟩
 by_cases hd3:3<dir
 ·rw[if_pos (.inr hd3)]at hr
  injection hr with z1 z2;injection z2 with z2 z3
  subst z1 z2 z3
  have d1:decide (dir<0)=false:=decide_eq_false hd
  have d2:decide (3<dir)=true:=decide_eq_true hd3
  go_enter Tryz.func29,Tryz.ntmps29
  go_wp2
  all_goals
   go_ret3
   exact⟨rfl,Below.refl _ _⟩
 rw[if_neg (by omega)]at hr
 have d0:0≤dir:=by omega
 have d3:dir≤3:=by omega
 have e1:decide (dir<0)=false:=decide_eq_false hd
 have e2:decide (3<dir)=false:=decide_eq_false hd3
 clear hd hd3
 by_cases c1:cls=1
 ·rw[if_pos c1]at hr
  injection hr with z1 z2;injection z2 with z2 z3
  subst z1 z2 z3 c1
  go_enter Tryz.func29,Tryz.ntmps29
  go_wp2_with (go_at_call 53;(with_reducible refine over_n.mono ?_);rintro e w1 ⟨rfl,rfl⟩)
  all_goals
   go_ret3
   exact⟨rfl,below_2⟩
 rw[if_neg c1]at hr
 have n1:(cls==1)=false:=beq_false_of_ne c1
 by_cases c2:cls=2
 ·rw[if_pos c2]at hr
  injection hr with z1 z2;injection z2 with z2 z3
  subst z1 z2 z3 c2
  clear n1 c1
  go_enter Tryz.func29,Tryz.ntmps29
  go_wp2_with (go_at_call 54;(with_reducible refine under_n.mono ?_);rintro e w1 ⟨rfl,rfl⟩)
  all_goals
   go_ret3
   exact⟨rfl,below_2⟩
 rw[if_neg c2]at hr
 have n2:(cls==2)=false:=beq_false_of_ne c2
 by_cases c3:cls=3
 ·rw[if_pos c3]at hr
  injection hr with z1 z2;injection z2 with z2 z3
  subst z1 z2 z3 c3
  clear n1 c1 n2 c2
  go_enter Tryz.func29,Tryz.ntmps29
  go_wp2_with (go_at_call 55;(with_reducible refine(To_one lit1 (hT.below below_2) d0 d3).mono ?_);rintro e w1 ⟨rfl,hb1⟩)
  all_goals
   go_ret3
   exact⟨rfl,below_a (below_a hb1)⟩
 rw[if_neg c3]at hr
 have n3:(cls==3)=false:=beq_false_of_ne c3
 by_cases c4:cls=4
 ·rw[if_pos c4]at hr
  injection hr with z1 z2;injection z2 with z2 z3
  subst z1 z2 z3 c4
  clear n1 c1 n2 c2 n3 c3
  go_enter Tryz.func29,Tryz.ntmps29
  go_wp2_with (go_at_call 55;(with_reducible refine(To_less lit54 (hT.below below3) d0 d3).mono ?_);rintro e w1 ⟨rfl,hb1⟩)
  all_goals
   go_ret3
   exact⟨rfl,below_a (below_a (below_a hb1))⟩
 rw[if_neg c4]at hr
 have n4:(cls==4)=false:=beq_false_of_ne c4
 injection hr with z1 z2;injection z2 with z2 z3
 subst z1 z2 z3
 go_enter Tryz.func29,Tryz.ntmps29
 go_wp2
 all_goals
  go_ret3
  exact⟨rfl,below_2⟩
end Go.Proofs.YtffaefjkpipjnaaGreatDoor

namespace Go.Proofs.YtffaefjkpipjnaaGreatDoor
set_option linter.unusedVariables false
set_option linter.unusedSimpArgs false
set_option maxRecDepth 100000
open Go.RowKit Go.ChangeShapes Go.WideShapes
theorem can_n {w:World}{v:Value}{neg r:Bool}{M:Nat}{E:Int}(h:Num w v M) (hT:Tab w) (h1: -9223372036854775808≤E) (h2:E≤9223372036854775807) (hr:fitsE (bareD ⟨neg,M,E⟩).e=r):
 Calls Tryz.prog 77 #[.agg #[.bool neg,v,.int .i64 E]] w (fun e w'=>e= .returned (.bool r)∧Below w.heap.size w w'):=by
 obtain⟨a,n,k,rfl⟩:=h.slice
 obtain⟨⟨n',M',E'⟩,e⟩:∃d,bareD ⟨neg,M,E⟩=d:=⟨_,rfl⟩
 rw[e]at hr
 simp only at hr
 cases r
 ·have BA:=Lib.hid (fun w v (h:Num w v M) (hT:Tab w)=>Bare_long h hT h1 h2 e hr)
  clear e hr
  go_enter Tryz.func77,Tryz.ntmps77
  go_wp2_with
   (first
     |(go_at_call 74;(with_reducible refine(BA.out _ _ (h.below (below_alloc _ _)) (hT.below (below_alloc _ _))).mono ?_);rintro e w1 ⟨rfl,hb1⟩;have B1:=(below_alloc _ _).trans (hb1.mono (below_alloc _ _).size);have m1:=((h.below (below_alloc _ _))).below hb1;have T1:=((hT.below (below_alloc _ _))).below hb1;have P1:=((blk_new)).below hb1;obtain⟨cP0_1,cP1_1,cP2_1,fP0_1,fP1_1,fP2_1,sP_1⟩:=P1.open3)
     |fail)
  all_goals
   go_ret
   exact⟨rfl,B1.alloc B1.size _⟩
 ·have BA:=Lib.hid (fun w v (h:Num w v M) (hT:Tab w)=>Bare_ok h hT h1 h2 e hr)
  clear e hr
  go_enter Tryz.func77,Tryz.ntmps77
  go_wp2_with
   (first
     |(go_at_call 74;(with_reducible refine(BA.out _ _ (h.below (below_alloc _ _)) (hT.below (below_alloc _ _))).mono ?_);rintro e w1 ⟨vx1,rfl,x1,hb1⟩;have B1:=(below_alloc _ _).trans (hb1.mono (below_alloc _ _).size);have m1:=((h.below (below_alloc _ _))).below hb1;have T1:=((hT.below (below_alloc _ _))).below hb1;have P1:=((blk_new)).below hb1;obtain⟨cP0_1,cP1_1,cP2_1,fP0_1,fP1_1,fP2_1,sP_1⟩:=P1.open3;obtain⟨ax1,kx1,rfl,-⟩:=x1.view;try simp only[List.length_nil]at x1)
     |fail)
  all_goals
   go_ret
   exact⟨rfl,B1.alloc B1.size _⟩
set_option maxHeartbeats 1000000 in
theorem Right_n {w:World}{v u:Value}{neg neg2 f1 f2:Bool}{M M2:Nat}{E E2 c:Int}(h:Num w v M) (h':Num w u M2) (hT:Tab w) (h1: -9223372036854775808≤E) (h2:E≤9223372036854775807) (h3: -9223372036854775808≤E2) (h4:E2≤9223372036854775807)
 (sM:bitN M≤400000) (sM2:bitN M2≤400000) (hf1:fitsE (bareD ⟨neg,M,E⟩).e=f1) (hf2:fitsE (bareD ⟨neg2,M2,E2⟩).e=f2) (hc:cmpD (bareD ⟨neg,M,E⟩) (bareD ⟨neg2,M2,E2⟩)=c):
 Calls Tryz.prog 49 #[.agg #[.bool neg,v,.int .i64 E,.bool neg2,u,.int .i64 E2]] w (fun e w'=>e= .returned (.bool (f1&&f2&&decide (c≤0)))∧Below w.heap.size w w'):=by
 obtain⟨av,nv,kv,rfl⟩:=h.slice
 obtain⟨au,nu,ku,rfl⟩:=h'.slice
 have C1:=Lib.hid (fun w v (h:Num w v M) (hT:Tab w)=>can_n h hT h1 h2 hf1)
 have C2:=Lib.hid (fun w v (h:Num w v M2) (hT:Tab w)=>can_n h hT h3 h4 hf2)
 have CC:=Lib.hid (fun w v u (h:Num w v M) (k:Num w u M2) (hT:Tab w)=>Cmp_n h k hT h1 h2 h3 h4 rfl rfl sM sM2 hc)
 obtain⟨d,hd⟩:∃d,decide (c≤0)=d:=⟨_,rfl⟩
 rw[hd]
 clear hf1 hf2 hc
 cases f1<;>cases f2
 all_goals
  go_enter Tryz.func49,Tryz.ntmps49
  go_wp2_with
   (first
     |(go_at_call 77;(with_reducible refine(C1.out _ _ (h.below (below_alloc _ _)) (hT.below (below_alloc _ _))).mono ?_);rintro e w1 ⟨rfl,hb1⟩;have B1:=(below_alloc _ _).trans (hb1.mono (below_alloc _ _).size);have m1:=((h.below (below_alloc _ _))).below hb1;have g1:=((h'.below (below_alloc _ _))).below hb1;have T1:=((hT.below (below_alloc _ _))).below hb1;have P1:=((blk_new)).below hb1;obtain⟨cP0_1,cP1_1,cP2_1,cP3_1,cP4_1,cP5_1,fP0_1,fP1_1,fP2_1,fP3_1,fP4_1,fP5_1,sP_1⟩:=P1.open6)
     |(go_at_call 77;(with_reducible refine(C2.out _ _ g1 T1).mono ?_);rintro e w2 ⟨rfl,hb2⟩;have B2:=B1.trans (hb2.mono B1.size);have m2:=m1.below hb2;have g2:=g1.below hb2;have T2:=T1.below hb2;have P2:=P1.below hb2;clear m1 g1 T1 P1;clear cP0_1 cP1_1 cP2_1 cP3_1 cP4_1 cP5_1 fP0_1 fP1_1 fP2_1 fP3_1 fP4_1 fP5_1 sP_1;obtain⟨cP0_2,cP1_2,cP2_2,cP3_2,cP4_2,cP5_2,fP0_2,fP1_2,fP2_2,fP3_2,fP4_2,fP5_2,sP_2⟩:=P2.open6)
     |(go_at_call 50;(with_reducible refine(CC.out _ _ _ m2 g2 T2).mono ?_);rintro e w3 ⟨rfl,hb3⟩;have B3:=B2.trans (hb3.mono B2.size);have m3:=m2.below hb3;have g3:=g2.below hb3;have T3:=T2.below hb3;have P3:=P2.below hb3;clear m2 g2 T2 P2;clear cP0_2 cP1_2 cP2_2 cP3_2 cP4_2 cP5_2 fP0_2 fP1_2 fP2_2 fP3_2 fP4_2 fP5_2 sP_2;obtain⟨cP0_3,cP1_3,cP2_3,cP3_3,cP4_3,cP5_3,fP0_3,fP1_3,fP2_3,fP3_3,fP4_3,fP5_3,sP_3⟩:=P3.open6)
     |fail)
  all_goals
   go_ret
   exact⟨rfl,by assumption⟩
theorem Top_z {w:World}{v:Value}{neg:Bool}{E:Int}(h:Num w v 0) (hT:Tab w) (h1: -9223372036854775808≤E) (h2:E≤9223372036854775807):
 Calls Tryz.prog 69 #[.agg #[.bool neg,v,.int .i64 E]] w (fun e w'=>e= .returned (.tuple #[.int .i64 0,.bool false])∧Below w.heap.size w w'):=by
 obtain⟨a,n,k,rfl⟩:=h.slice
 have HB:=Lib.hid (fun w v (h:Num w v 0) (hT:Tab w)=>bare_d (neg:=neg) (E:=E) h hT h1 h2 (bareD_zero rfl))
 have dz:(digs BB 0).length=0:=by rw[digs_zero];rfl
 go_enter Tryz.func69,Tryz.ntmps69
 go_wp2_with
  (first
    |(go_at_call 80;(with_reducible refine(HB.out _ _ (h.below (below_alloc _ _)) (hT.below (below_alloc _ _))).mono ?_);rintro e w1 ⟨vd1,rfl,d1,hb1⟩;have B1:=(below_alloc _ _).trans (hb1.mono (below_alloc _ _).size);have m1:=((h.below (below_alloc _ _))).below hb1;have T1:=((hT.below (below_alloc _ _))).below hb1;have P1:=((blk_new)).below hb1;obtain⟨cP0_1,cP1_1,cP2_1,fP0_1,fP1_1,fP2_1,sP_1⟩:=P1.open3;obtain⟨ud1,rfl,d1⟩:=d1;obtain⟨ad1,kd1,rfl,-⟩:=d1.view)
    |fail)
 go_ret2
 exact⟨by simp,below_set3 B1 (Nat.le_refl _) _ _ _⟩
set_option maxHeartbeats 2000000 in
theorem Break_n {w:World}{v:Value}{neg n':Bool}{A M:Nat}{e0 E:Int}{r:Bool}(h:Num w v A) (hT:Tab w) (h1: -9223372036854775808≤e0) (h2:e0≤9223372036854775807)
 (q:bareD ⟨neg,A,e0⟩=⟨n',M,E⟩) (sM:bitN M≤2560000) (hr:(fitsE E&&(decide (M=0)||isBrk M E))=r):
 Calls Tryz.prog 88 #[.agg #[.bool neg,v,.int .i64 e0]] w (fun e w'=>e= .returned (.bool r)∧Below w.heap.size w w'):=by
 obtain⟨a,n,k,rfl⟩:=h.slice
 by_cases hf:fitsE E=true
 ·have HB:=Lib.hid (fun w v (h:Num w v A) (hT:Tab w)=>Bare_ok h hT h1 h2 q hf)
  have r1: -1073741824≤E∧E≤1073741824:=by unfold fitsE at hf;simp at hf;exact hf
  have qa:=bareD_again q (by omega) (by omega)
  rw[hf,Bool.true_and]at hr
  by_cases h0:M=0
  ·subst h0
   have HT:=Lib.hid (fun w v (h:Num w v 0) (hT:Tab w)=>Top_z (neg:=n') (E:=E) h hT (by omega) (by omega))
   have hrt:r=true:=by rw[←hr,decide_eq_true rfl,Bool.true_or]
   subst hrt
   clear hr q qa hf
   go_enter Tryz.func88,Tryz.ntmps88
   go_upto_region 2 with
    (first
      |(go_at_call 74;(with_reducible refine(HB.out _ _ (h.below (below_alloc _ _)) (hT.below (below_alloc _ _))).mono ?_);rintro e w1 ⟨vx1,rfl,x1,hb1⟩;have B1:=(below_alloc _ _).trans (hb1.mono (below_alloc _ _).size);have m1:=((h.below (below_alloc _ _))).below hb1;have T1:=((hT.below (below_alloc _ _))).below hb1;have P1:=((blk_new)).below hb1;obtain⟨cP0_1,cP1_1,cP2_1,fP0_1,fP1_1,fP2_1,sP_1⟩:=P1.open3;obtain⟨ax1,kx1,rfl,-⟩:=x1.view;try simp only[List.length_nil]at x1)
      |fail)
   have x2:=x1.set3 P1 dcells (.bool n') (.slice ax1 (digs BB 0).length kx1) (.int .i64 E)
   have P4:=P1.set3 (.bool n') (.slice ax1 (digs BB 0).length kx1) (.int .i64 E)
   have B2:=below_set3 B1 (Nat.le_refl _) (.bool n') (.slice ax1 (digs BB 0).length kx1) (.int .i64 E)
   have T4:=T1.set3 (Nat.ne_of_lt hT.lt) (.bool n') (.slice ax1 (digs BB 0).length kx1) (.int .i64 E)
   clear x1 P1 B1 T1 m1 cP0_1 cP1_1 cP2_1 fP0_1 fP1_1 fP2_1 sP_1 hb1
   generalize ((w1.setCell ⟨w.heap.size,0,none⟩ (.bool n')).setCell ⟨w.heap.size,1,none⟩ (.slice ax1 (digs BB 0).length kx1)).setCell ⟨w.heap.size,2,none⟩ (.int .i64 E)=w2 at*
   obtain⟨cP0_1,cP1_1,cP2_1,fP0_1,fP1_1,fP2_1,sP_1⟩:=P4.open3
   go_wp2_with
    (first
      |(go_at_call 69;(with_reducible refine(HT.out _ _ (x2.num (by omega)) T4).mono ?_);rintro e w11 ⟨rfl,hb11⟩;have B11:=B2.trans (hb11.mono B2.size);have x11:=x2.below hb11;have T11:=T4.below hb11;have P11:=P4.below hb11;clear x2 T4 P4;obtain⟨cP0_11,cP1_11,cP2_11,fP0_11,fP1_11,fP2_11,sP_11⟩:=P11.open3)
      |fail)
   all_goals
    go_ret
    exact⟨rfl,by assumption⟩
  ·have HT:=Lib.hid (fun w v (h:Num w v M) (hT:Tab w)=>Top_n h hT (by omega) (by omega) qa h0)
   obtain⟨t,ht⟩:∃t,topD ⟨n',M,E⟩=t:=⟨_,rfl⟩
   have htr:t≤2560000+1073741824∧-1073741824≤t:=by
    have hb:bitN M≠0:=fun e=>h0 (by have:=bitN_lt M;rw[e]at this;omega)
    unfold topD at ht
    dsimp only at ht
    omega
   rw[ht]at HT
   rw[decide_eq_false h0,Bool.false_or]at hr
   unfold isBrk at hr
   have ht2:topD ⟨false,M,E⟩=t:=ht
   rw[ht2]at hr
   obtain⟨b,hb⟩:∃b,bitN M=b:=⟨_,rfl⟩
   rw[hb]at hr
   have eb:=Lib.hid hb
   have sb:bitN M≤2560000:=sM
   clear hb ht ht2
   by_cases hbig:1023<t
   ·rw[if_pos hbig]at hr
    have d1:decide (1023<t)=true:=decide_eq_true hbig
    by_cases hE:E=1024
    ·have dE:(E==1024)=true:=by rw[hE];rfl
     have hr2:((b:Int)==1)=r:=by
      rw[←hr,decide_eq_true hE,Bool.true_and]
      by_cases hb1:b=1
      ·rw[hb1];rfl
      ·rw[decide_eq_false hb1];exact beq_eq_false_iff_ne.2 (by omega)
     clear hr q qa hf hE
     go_enter Tryz.func88,Tryz.ntmps88
     go_upto_region 2 with
      (first
        |(go_at_call 74;(with_reducible refine(HB.out _ _ (h.below (below_alloc _ _)) (hT.below (below_alloc _ _))).mono ?_);rintro e w1 ⟨vx1,rfl,x1,hb1⟩;have B1:=(below_alloc _ _).trans (hb1.mono (below_alloc _ _).size);have m1:=((h.below (below_alloc _ _))).below hb1;have T1:=((hT.below (below_alloc _ _))).below hb1;have P1:=((blk_new)).below hb1;obtain⟨cP0_1,cP1_1,cP2_1,fP0_1,fP1_1,fP2_1,sP_1⟩:=P1.open3;obtain⟨ax1,kx1,rfl,-⟩:=x1.view;try simp only[List.length_nil]at x1)
        |fail)
     have x2:=x1.set3 P1 dcells (.bool n') (.slice ax1 (digs BB M).length kx1) (.int .i64 E)
     have P4:=P1.set3 (.bool n') (.slice ax1 (digs BB M).length kx1) (.int .i64 E)
     have B2:=below_set3 B1 (Nat.le_refl _) (.bool n') (.slice ax1 (digs BB M).length kx1) (.int .i64 E)
     have T4:=T1.set3 (Nat.ne_of_lt hT.lt) (.bool n') (.slice ax1 (digs BB M).length kx1) (.int .i64 E)
     clear x1 P1 B1 T1 m1 cP0_1 cP1_1 cP2_1 fP0_1 fP1_1 fP2_1 sP_1 hb1
     generalize ((w1.setCell ⟨w.heap.size,0,none⟩ (.bool n')).setCell ⟨w.heap.size,1,none⟩ (.slice ax1 (digs BB M).length kx1)).setCell ⟨w.heap.size,2,none⟩ (.int .i64 E)=w2 at*
     obtain⟨cP0_1,cP1_1,cP2_1,fP0_1,fP1_1,fP2_1,sP_1⟩:=P4.open3
     go_wp2_with
      (first
        |(go_at_call 69;(with_reducible refine(HT.out _ _ (x2.num (by omega)) T4).mono ?_);rintro e w11 ⟨rfl,hb11⟩;have B11:=B2.trans (hb11.mono B2.size);have x11:=x2.below hb11;have T11:=T4.below hb11;have P11:=P4.below hb11;clear x2 T4 P4;obtain⟨cP0_11,cP1_11,cP2_11,fP0_11,fP1_11,fP2_11,sP_11⟩:=P11.open3)
        |(go_at_call 48;(with_reducible refine(bits_n (x11.num (by omega)) eb.out).mono ?_);rintro e w12 ⟨rfl,hb12⟩;have B12:=B11.trans (hb12.mono B11.size);have x12:=x11.below hb12;have T12:=T11.below hb12;have P12:=P11.below hb12;clear x11 T11 P11;clear cP0_11 cP1_11 cP2_11 fP0_11 fP1_11 fP2_11 sP_11;obtain⟨cP0_12,cP1_12,cP2_12,fP0_12,fP1_12,fP2_12,sP_12⟩:=P12.open3)
        |fail)
     all_goals
      go_ret
      exact⟨rfl,by assumption⟩
    ·have dE:(E==1024)=false:=beq_eq_false_iff_ne.2 hE
     have hrf:r=false:=by rw[←hr,decide_eq_false hE,Bool.false_and]
     subst hrf
     clear hr q qa hf hE
     go_enter Tryz.func88,Tryz.ntmps88
     go_upto_region 2 with
      (first
        |(go_at_call 74;(with_reducible refine(HB.out _ _ (h.below (below_alloc _ _)) (hT.below (below_alloc _ _))).mono ?_);rintro e w1 ⟨vx1,rfl,x1,hb1⟩;have B1:=(below_alloc _ _).trans (hb1.mono (below_alloc _ _).size);have m1:=((h.below (below_alloc _ _))).below hb1;have T1:=((hT.below (below_alloc _ _))).below hb1;have P1:=((blk_new)).below hb1;obtain⟨cP0_1,cP1_1,cP2_1,fP0_1,fP1_1,fP2_1,sP_1⟩:=P1.open3;obtain⟨ax1,kx1,rfl,-⟩:=x1.view;try simp only[List.length_nil]at x1)
        |fail)
     have x2:=x1.set3 P1 dcells (.bool n') (.slice ax1 (digs BB M).length kx1) (.int .i64 E)
     have P4:=P1.set3 (.bool n') (.slice ax1 (digs BB M).length kx1) (.int .i64 E)
     have B2:=below_set3 B1 (Nat.le_refl _) (.bool n') (.slice ax1 (digs BB M).length kx1) (.int .i64 E)
     have T4:=T1.set3 (Nat.ne_of_lt hT.lt) (.bool n') (.slice ax1 (digs BB M).length kx1) (.int .i64 E)
     clear x1 P1 B1 T1 m1 cP0_1 cP1_1 cP2_1 fP0_1 fP1_1 fP2_1 sP_1 hb1
     generalize ((w1.setCell ⟨w.heap.size,0,none⟩ (.bool n')).setCell ⟨w.heap.size,1,none⟩ (.slice ax1 (digs BB M).length kx1)).setCell ⟨w.heap.size,2,none⟩ (.int .i64 E)=w2 at*
     obtain⟨cP0_1,cP1_1,cP2_1,fP0_1,fP1_1,fP2_1,sP_1⟩:=P4.open3
     go_wp2_with
      (first
        |(go_at_call 69;(with_reducible refine(HT.out _ _ (x2.num (by omega)) T4).mono ?_);rintro e w11 ⟨rfl,hb11⟩;have B11:=B2.trans (hb11.mono B2.size);have x11:=x2.below hb11;have T11:=T4.below hb11;have P11:=P4.below hb11;clear x2 T4 P4;obtain⟨cP0_11,cP1_11,cP2_11,fP0_11,fP1_11,fP2_11,sP_11⟩:=P11.open3)
        |(go_at_call 48;(with_reducible refine(bits_n (x11.num (by omega)) eb.out).mono ?_);rintro e w12 ⟨rfl,hb12⟩;have B12:=B11.trans (hb12.mono B11.size);have x12:=x11.below hb12;have T12:=T11.below hb12;have P12:=P11.below hb12;clear x11 T11 P11;clear cP0_11 cP1_11 cP2_11 fP0_11 fP1_11 fP2_11 sP_11;obtain⟨cP0_12,cP1_12,cP2_12,fP0_12,fP1_12,fP2_12,sP_12⟩:=P12.open3)
        |fail)
     all_goals
      go_ret
      exact⟨rfl,by assumption⟩
   ·rw[if_neg hbig]at hr
    have d1:decide (1023<t)=false:=decide_eq_false hbig
    have w1':IntKind.i64.wrap (t-52)=t-52:=by rw[IntKind.wrap_i64];omega
    obtain⟨mx,hmx⟩:∃m,max (t-52) (-1074)=m:=⟨_,rfl⟩
    have w2':IntKind.i64.wrap (mx-1)=mx-1:=by rw[IntKind.wrap_i64];omega
    rw[hmx]at hr
    clear q qa hf
    go_enter Tryz.func88,Tryz.ntmps88
    go_upto_region 2 with
     (first
       |(go_at_call 74;(with_reducible refine(HB.out _ _ (h.below (below_alloc _ _)) (hT.below (below_alloc _ _))).mono ?_);rintro e w1 ⟨vx1,rfl,x1,hb1⟩;have B1:=(below_alloc _ _).trans (hb1.mono (below_alloc _ _).size);have m1:=((h.below (below_alloc _ _))).below hb1;have T1:=((hT.below (below_alloc _ _))).below hb1;have P1:=((blk_new)).below hb1;obtain⟨cP0_1,cP1_1,cP2_1,fP0_1,fP1_1,fP2_1,sP_1⟩:=P1.open3;obtain⟨ax1,kx1,rfl,-⟩:=x1.view;try simp only[List.length_nil]at x1)
       |fail)
    have x2:=x1.set3 P1 dcells (.bool n') (.slice ax1 (digs BB M).length kx1) (.int .i64 E)
    have P4:=P1.set3 (.bool n') (.slice ax1 (digs BB M).length kx1) (.int .i64 E)
    have B2:=below_set3 B1 (Nat.le_refl _) (.bool n') (.slice ax1 (digs BB M).length kx1) (.int .i64 E)
    have T4:=T1.set3 (Nat.ne_of_lt hT.lt) (.bool n') (.slice ax1 (digs BB M).length kx1) (.int .i64 E)
    clear x1 P1 B1 T1 m1 cP0_1 cP1_1 cP2_1 fP0_1 fP1_1 fP2_1 sP_1 hb1
    generalize ((w1.setCell ⟨w.heap.size,0,none⟩ (.bool n')).setCell ⟨w.heap.size,1,none⟩ (.slice ax1 (digs BB M).length kx1)).setCell ⟨w.heap.size,2,none⟩ (.int .i64 E)=w2 at*
    obtain⟨cP0_1,cP1_1,cP2_1,fP0_1,fP1_1,fP2_1,sP_1⟩:=P4.open3
    go_wp2_with
     (first
       |(go_at_call 69;(with_reducible refine(HT.out _ _ (x2.num (by omega)) T4).mono ?_);rintro e w11 ⟨rfl,hb11⟩;have B11:=B2.trans (hb11.mono B2.size);have x11:=x2.below hb11;have T11:=T4.below hb11;have P11:=P4.below hb11;clear x2 T4 P4;obtain⟨cP0_11,cP1_11,cP2_11,fP0_11,fP1_11,fP2_11,sP_11⟩:=P11.open3)
       |fail)
    all_goals
     go_ret
     exact⟨rfl,by assumption⟩
 ·have HB:=Lib.hid (fun w v (h:Num w v A) (hT:Tab w)=>Bare_long h hT h1 h2 q (by simpa using hf))
  have HT:=Lib.hid (fun w (hT:Tab w)=>Top_z (neg:=false) (E:=0) (Num.nil w) hT (by decide) (by decide))
  have hrf:r=false:=by rw[←hr];simp[hf]
  subst hrf
  clear hr q hf
  go_enter Tryz.func88,Tryz.ntmps88
  go_upto_region 2 with
   (first
     |(go_at_call 74;(with_reducible refine(HB.out _ _ (h.below (below_alloc _ _)) (hT.below (below_alloc _ _))).mono ?_);rintro e w1 ⟨rfl,hb1⟩;have B1:=(below_alloc _ _).trans (hb1.mono (below_alloc _ _).size);have m1:=((h.below (below_alloc _ _))).below hb1;have T1:=((hT.below (below_alloc _ _))).below hb1;have P1:=((blk_new)).below hb1;obtain⟨cP0_1,cP1_1,cP2_1,fP0_1,fP1_1,fP2_1,sP_1⟩:=P1.open3)
     |fail)
  have P4:=P1.set3 (.bool false) (.slice none 0 0) (.int .i64 0)
  have B2:=below_set3 B1 (Nat.le_refl _) (.bool false) (.slice none 0 0) (.int .i64 0)
  have T4:=T1.set3 (Nat.ne_of_lt hT.lt) (.bool false) (.slice none 0 0) (.int .i64 0)
  clear P1 B1 T1 m1 cP0_1 cP1_1 cP2_1 fP0_1 fP1_1 fP2_1 sP_1 hb1
  generalize ((w1.setCell ⟨w.heap.size,0,none⟩ (.bool false)).setCell ⟨w.heap.size,1,none⟩ (.slice none 0 0)).setCell ⟨w.heap.size,2,none⟩ (.int .i64 0)=w2 at*
  obtain⟨cP0_1,cP1_1,cP2_1,fP0_1,fP1_1,fP2_1,sP_1⟩:=P4.open3
  go_wp2_with
   (first
     |(go_at_call 69;(with_reducible refine(HT.out _ T4).mono ?_);rintro e w11 ⟨rfl,hb11⟩;have B11:=B2.trans (hb11.mono B2.size);have T11:=T4.below hb11;have P11:=P4.below hb11;clear T4 P4;obtain⟨cP0_11,cP1_11,cP2_11,fP0_11,fP1_11,fP2_11,sP_11⟩:=P11.open3)
     |fail)
  all_goals
   go_ret
   exact⟨rfl,by assumption⟩
end Go.Proofs.YtffaefjkpipjnaaGreatDoor

namespace Go.Proofs.YtffaefjkpipjnaaGreatDoor
set_option maxRecDepth 100000
open Go.RowKit Go.ChangeShapes Go.WideShapes
theorem rcut_n {w:World}{e:Int}(h1: -9223372036854775808≤e) (h2:e≤9223372036854775807):Calls Tryz.prog 43 #[.int .i64 e] w (fun r w'=>r= .returned (.int .i64 (cutE e))∧w'=w):=by
 by_cases c1:2147483648<e
 ·have d1:decide (2147483648<e)=true:=decide_eq_true c1
  have hc:cutE e=2147483648:=by unfold cutE;omega
  rw[hc]
  clear hc
  go_enter Tryz.func43,Tryz.ntmps43
  go_wp2
  go_ret
  exact⟨rfl,rfl⟩
 ·have d1:decide (2147483648<e)=false:=decide_eq_false c1
  by_cases c2:e< -2147483648
  ·have d2:decide (e< -2147483648)=true:=decide_eq_true c2
   have hc:cutE e= -2147483648:=by unfold cutE;omega
   rw[hc]
   clear hc
   go_enter Tryz.func43,Tryz.ntmps43
   go_wp2
   go_ret
   exact⟨rfl,rfl⟩
  ·have d2:decide (e< -2147483648)=false:=decide_eq_false c2
   have hc:cutE e=e:=by unfold cutE;omega
   rw[hc]
   clear hc
   go_enter Tryz.func43,Tryz.ntmps43
   go_wp2
   go_ret
   exact⟨rfl,rfl⟩
theorem RdD.set3 {w:World}{v:Value}{l:List Nat}{b:Nat}{c:Array Value}(h:RdD w v l) (hB:Blk w b c) (hc:∀x∈c.toList,∀n:Nat,x≠D32 n) (x y z:Value):
 RdD (((w.setCell ⟨b,0,none⟩ x).setCell ⟨b,1,none⟩ y).setCell ⟨b,2,none⟩ z) v l:=by
 have ha:Rd (fun g=>g≠b) w v (l.map D32):=by
  obtain⟨a,k,h1,h2,h3,h4,h5⟩:=h
  obtain⟨hb,T,hh⟩:=hB
  refine⟨a,k,h1,h2,h3,h4,fun j u hj=>?_⟩
  obtain⟨g,off,e1,_,e3⟩:=h5 j u hj
  refine⟨g,off,e1,fun e=>?_,e3⟩
  subst e
  rw[World.cell?,hh]at e3
  obtain⟨n,-,rfl⟩:=List.mem_map.1 (List.mem_of_getElem? hj)
  have e4:c[off+j]?=some (D32 n):=by simpa using e3
  exact hc _ (by rw[←Array.getElem?_toList]at e4;exact List.mem_of_getElem? e4) n rfl
 have h2:=ha.keep (S:=fun g=>g=b) ((((Fr.refl (fun g=>g=b) w).setCell (p:=⟨b,0,none⟩) rfl x).setCell (p:=⟨b,1,none⟩) rfl y).setCell (p:=⟨b,2,none⟩) rfl z) (fun _ h=>h)
 exact h2.mono (fun _ _ _=>trivial)
theorem dcells32 {p:Bool}{a:Option Addr}{n k:Nat}{e:Int}:∀x∈(#[.bool p,.slice a n k,.int .i64 e]:Array Value).toList,∀m:Nat,x≠D32 m:=by
 intro x hx m
 simp at hx
 rcases hx with rfl|rfl|rfl<;>simp[D32]
theorem low_bits {A t:Nat}(h0:A≠0):(t<low2 A→A/2^t%2=0)∧A/2^low2 A%2=1:=by
 obtain⟨m,hm⟩:=low2_eq h0
 refine⟨fun h=>?_,by rw[odd_eq hm];omega⟩
 obtain⟨d,hd⟩:∃d,low2 A=t+1+d:=⟨low2 A-t-1,by omega⟩
 have e:A=2^t*(2*(2^d*(2*m+1))):=by
  rw[hd]at hm
  rw[hm,Nat.pow_add,Nat.pow_succ]
  simp only[Nat.mul_assoc]
 rw[e,Nat.mul_div_cancel_left _ (Nat.pow_pos (by omega))]
 omega
set_option maxHeartbeats 1000000 in
theorem ROf_n {w:World}{v:Value}{neg n':Bool}{M M':Nat}{E E':Int}(h:Num w v M) (sM:bitN M≤200000) (h1: -9223372036854775808≤E) (h2:E≤9223372036854775807) (e:bareD ⟨neg,M,E⟩=⟨n',M',E'⟩):
 Calls Tryz.prog 20 #[.agg #[.bool neg,v,.int .i64 E]] w (fun e w'=>∃u,e= .returned (.agg #[.bool n',u,.int .i64 E'])∧RdD w' u (digs DD M')∧Below w.heap.size w w'):=by
 obtain⟨a,n,k,rfl⟩:=h.slice
 by_cases h0:M=0
 ·subst h0
  rw[bareD_zero rfl]at e
  injection e with e1 e2 e3
  subst e1 e2 e3
  have ht:=Lib.hid (fun w v (h:Num w v 0)=>(show Calls Tryz.prog 40 #[v] w (OneD w [])from to_n h))
  go_enter Tryz.func20,Tryz.ntmps20
  go_wp2_with
   (first
     |(go_at_call 40;(with_reducible refine(ht.out _ _ (h.below below_2)).mono ?_);rintro e w1 ⟨vd1,rfl,d1,hb1⟩;have B1:=below_2.trans (hb1.mono below_2.size);have m1:=((h.below below_2)).below hb1;have P1:=((blk_a1)).below hb1;have R1:=((blk_a2)).below hb1;obtain⟨cP0_1,cP1_1,cP2_1,fP0_1,fP1_1,fP2_1,sP_1⟩:=P1.open3;obtain⟨cR0_1,cR1_1,cR2_1,fR0_1,fR1_1,fR2_1,sR_1⟩:=R1.open3;obtain⟨ad1,kd1,rfl,-⟩:=d1.view;try simp only[List.length_nil]at d1)
     |fail)
  obtain⟨q0,q1,q2,-⟩:=(R1.set3 (.bool false) (.slice none 0 0) (.int .i64 0)).open3
  refine bodyPost_ret (v:= .agg #[.bool false,.slice none 0 0,.int .i64 0]) ?_ rfl ?_
  ·simp[results,Tryz.results20,go_sem,q0,q1,q2]
  ·exact⟨_,rfl,by rw[digs_zero];exact Rd.nil _ _,below_set3 B1 (by omega) _ _ _⟩
 ·have hsn:digs DD M≠[]:=fun e=>h0 ((digs_nil_iff DD_two _).1 e)
  have hsb:(((digs DD M).length:Int)==0)=false:=beq_false_of_ne (by have:=List.length_pos_iff.2 hsn;omega)
  obtain⟨lb1,lb2⟩:=And.intro (fun t=>(low_bits (t:=t) h0).1) (low_bits (t:=0) h0).2
  rw[bareD_pos h0]at e
  injection e with e1 e2 e3
  simp only at e1 e2 e3
  have hl:=low2_lt h0
  have sM3:bitN M≤300000:=by omega
  have hlM:(digs DD M).length≤1000000:=Nat.le_trans (digsDlen sM3) (by omega)
  generalize low2 M=k at*
  obtain⟨c1,c2⟩:=cutE_range E
  have HC:=Lib.hid (fun w=>rcut_n (w:=w) h1 h2)
  generalize cutE E=c at*
  have hadd:IntKind.i64.wrap (c+(k:Int))=c+(k:Int):=by rw[IntKind.wrap_i64];omega
  subst e1 e3
  have LB1:=Lib.hid lb1;have LB2:=Lib.hid lb2;have E2:=Lib.hid e2
  have hk30:k≤300000:=by omega
  have HS:=Lib.hid (fun w v (h:RdD w v (digs DD M))=>rshr_n (n:=k) h sM3 (by omega))
  unfold RShr at HS
  rw[e2]at HS
  have ht:=Lib.hid (fun w v (h:Num w v M)=>to_n h)
  clear lb1 lb2 e2
  go_enter Tryz.func20,Tryz.ntmps20
  go_wp2_with
   (first
     |(go_at_call 40;(with_reducible refine(ht.out _ _ (h.below below_2)).mono ?_);rintro e w1 ⟨vd1,rfl,d1,hb1⟩;have B1:=below_2.trans (hb1.mono below_2.size);have m1:=((h.below below_2)).below hb1;have P1:=((blk_a1)).below hb1;have R1:=((blk_a2)).below hb1;obtain⟨cP0_1,cP1_1,cP2_1,fP0_1,fP1_1,fP2_1,sP_1⟩:=P1.open3;obtain⟨cR0_1,cR1_1,cR2_1,fR0_1,fR1_1,fR2_1,sR_1⟩:=R1.open3;obtain⟨ad1,kd1,rfl,-⟩:=d1.view;try simp only[List.length_nil]at d1)
     |fail)
  have HD1:=Lib.hid d1;have HP1:=Lib.hid P1;have HR1:=Lib.hid R1;have HB1:=Lib.hid B1
  clear cP0_1 cP1_1 cP2_1 fP0_1 fP1_1 fP2_1 sP_1 cR0_1 cR1_1 cR2_1 fR0_1 fR1_1 fR2_1 sR_1 m1 hb1 P1 R1 B1 d1
  go_loopw [4] (fun x wr=>∃t:Nat,x= .int .i64 t∧t≤k∧wr=w1) (fun x _=>k-(intOf x).toNat)
  case atStart=>exact⟨0,rfl,Nat.zero_le _,rfl⟩
  case round=>
   obtain⟨t,rfl,ht',rfl⟩:=hrel
   have hBt:=Lib.hid (rbit_any (i:=t) HD1.out hlM (by omega))
   by_cases hlt:t<k
   ·rw[LB1.out t hlt]at hBt
    go_wp2_with (go_at_call 41;(with_reducible refine hBt.out.mono ?_);rintro e w2 ⟨rfl,rfl⟩)
    go_round
    case rel=>exact⟨t+1,by go_num,by omega,by first|rfl|trivial⟩
    case measure=>simp[intOf];omega
   ·obtain rfl:t=k:=by omega
    rw[LB2.out]at hBt
    have P1:=HP1.out;have R1:=HR1.out;have B1:=HB1.out;have d1:=HD1.out
    obtain⟨cP0_0,cP1_0,cP2_0,fP0_0,fP1_0,fP2_0,sP_0⟩:=P1.open3
    obtain⟨cR0_0,cR1_0,cR2_0,fR0_0,fR1_0,fR2_0,sR_0⟩:=R1.open3
    have BA:=B1
    go_wp2_with
     (first
       |(go_at_call 41;(with_reducible refine(hBt.out).mono ?_);rintro e w2 ⟨rfl,rfl⟩)
       |(go_at_call 42;(with_reducible refine(HS.out _ _ d1).mono ?_);rintro e w3 ⟨vq3,rfl,q3,hb3⟩;have B3:=BA.trans (hb3.mono BA.size);have d3:=d1.below hb3;have P3:=P1.below hb3;have R3:=R1.below hb3;clear d1 P1 R1;obtain⟨cP0_3,cP1_3,cP2_3,fP0_3,fP1_3,fP2_3,sP_3⟩:=P3.open3;obtain⟨cR0_3,cR1_3,cR2_3,fR0_3,fR1_3,fR2_3,sR_3⟩:=R3.open3;obtain⟨aq3,kq3,rfl,-⟩:=q3.view;try simp only[List.length_nil]at q3)
       |fail)
    go_still_tail 8,(by kernel_rfl)
    still_call (HC.out _)
    repeat still_step
    refine wpStill_nil ?_
    change wpList _ _ _ _ _ w3.drew
    have RD:Blk w3.drew _ _:=R3.below (below_drewN (Below.refl _ _) 1)
    have BD:Below w.heap.size w w3.drew:=below_drewN B3 1
    have QD:RdD w3.drew _ _:=q3.below (below_drewN (Below.refl _ _) 1)
    clear cP0_3 cP1_3 cP2_3 fP0_3 fP1_3 fP2_3 sP_3 cR0_3 cR1_3 cR2_3 fR0_3 fR1_3 fR2_3 sR_3 P3 R3 B3 q3 d3
    generalize w3.drew=w4 at*
    obtain⟨cR0,cR1,cR2,fR0,fR1,fR2,sR⟩:=RD.open3
    go_wp2
    obtain⟨q0,q1,q2,-⟩:=(RD.set3 (.bool neg) (.slice aq3 (digs DD M').length kq3) (.int .i64 (c+(t:Int)))).open3
    refine bodyPost_ret (v:= .agg #[.bool neg,.slice aq3 (digs DD M').length kq3,.int .i64 (c+(t:Int))]) ?_ rfl ?_
    ·simp[results,Tryz.results20,go_sem,q0,q1,q2]
    ·exact⟨_,rfl,QD.set3 RD dcells32 _ _ _,below_set3 BD (by omega) _ _ _⟩
end Go.Proofs.YtffaefjkpipjnaaGreatDoor
namespace Go.Proofs.YtffaefjkpipjnaaGreatDoor
set_option maxRecDepth 100000
open Go.RowKit Go.ChangeShapes Go.WideShapes
theorem RdD.slice {w:World}{v:Value}{l:List Nat}(h:RdD w v l):∃a,∃m k:Nat,v= .slice a m k:=by
 obtain⟨a,k,h2,-⟩:=h.view
 exact⟨a,_,k,h2⟩
end Go.Proofs.YtffaefjkpipjnaaGreatDoor
namespace Go.Proofs.YtffaefjkpipjnaaGreatDoor
set_option maxRecDepth 100000
open Go.RowKit Go.ChangeShapes Go.WideShapes
end Go.Proofs.YtffaefjkpipjnaaGreatDoor

namespace Go.Proofs.YtffaefjkpipjnaaGreatDoor
set_option maxRecDepth 100000
open Go.RowKit Go.ChangeShapes Go.WideShapes
end Go.Proofs.YtffaefjkpipjnaaGreatDoor
namespace Go.Proofs.YtffaefjkpipjnaaGreatDoor
set_option maxRecDepth 100000
open Go.RowKit Go.ChangeShapes Go.WideShapes
end Go.Proofs.YtffaefjkpipjnaaGreatDoor
namespace Go.Proofs.YtffaefjkpipjnaaGreatDoor
set_option maxRecDepth 100000
open Go.RowKit Go.ChangeShapes Go.WideShapes
end Go.Proofs.YtffaefjkpipjnaaGreatDoor
namespace Go.Proofs.YtffaefjkpipjnaaGreatDoor
set_option maxRecDepth 100000
open Go.RowKit Go.ChangeShapes Go.WideShapes
end Go.Proofs.YtffaefjkpipjnaaGreatDoor
namespace Go.Proofs.YtffaefjkpipjnaaGreatDoor
set_option maxRecDepth 100000
open Go.RowKit Go.ChangeShapes Go.WideShapes
end Go.Proofs.YtffaefjkpipjnaaGreatDoor
namespace Go.Proofs.YtffaefjkpipjnaaGreatDoor
set_option maxRecDepth 100000
open Go.RowKit Go.ChangeShapes Go.WideShapes
set_option maxHeartbeats 800000 in
theorem RTop_n {w:World}{u:Value}{neg:Bool}{M:Nat}{E:Int}(h:RdD w u (digs DD M)) (sM:bitN M≤200000) (h1: -4294967296≤E) (h2:E≤4294967296):
 Calls Tryz.prog 9 #[.agg #[.bool neg,u,.int .i64 E]] w (fun e w'=>e= .returned (.int .i64 (topD ⟨neg,M,E⟩))∧Below w.heap.size w w'):=by
 obtain⟨a,n,k,rfl⟩:=h.slice
 have sM4:bitN M≤400000:=by omega
 unfold topD
 simp only
 obtain⟨b,hb⟩:∃b,bitN M=b:=⟨_,rfl⟩
 have eb:=Lib.hid hb
 rw[hb]
 have hw1:IntKind.i64.wrap ((b:Int)-1)=(b:Int)-1:=by rw[IntKind.wrap_i64];omega
 have hw2:IntKind.i64.wrap ((b:Int)-1+E)=(b:Int)-1+E:=by rw[IntKind.wrap_i64];omega
 clear hb
 go_enter Tryz.func9,Tryz.ntmps9
 go_wp2_with fail
 have hA:Below w.heap.size w (w.alloc (.cells #[.bool neg,.slice a n k,.int .i64 E] 27)):=below_alloc _ _
 have hX:=h.below hA
 have PX:Blk (w.alloc (.cells #[.bool neg,.slice a n k,.int .i64 E] 27)) w.heap.size #[.bool neg,.slice a n k,.int .i64 E]:=blk_new
 generalize w.alloc (.cells #[.bool neg,.slice a n k,.int .i64 E] 27)=w1 at*
 obtain⟨cP0,cP1,cP2,fP0,fP1,fP2,sP⟩:=PX.open3
 have hD:RdD w1.drew _ _:=hX.below (below_drewN (Below.refl _ _) 1)
 have HB:=Lib.hid (rbits_n hD eb.out sM4)
 go_still_tail 7,(by kernel_rfl)
 still_call HB.out
 repeat still_step
 refine wpStill_nil ?_
 change wpList _ _ _ _ _ w1.drew
 have BD:Below w.heap.size w w1.drew:=below_drewN hA 1
 generalize w1.drew=w2 at*
 go_wp2
 go_ret
 exact⟨rfl,BD⟩
end Go.Proofs.YtffaefjkpipjnaaGreatDoor

namespace Go.Proofs.YtffaefjkpipjnaaGreatDoor
set_option linter.unusedVariables false
set_option linter.unusedSimpArgs false
set_option maxRecDepth 100000
theorem isBrk_one (F:Int):isBrk 1 F=(decide (-1075≤F)&&decide (F≤1024)):=by
 have ht:topD ⟨false,1,F⟩=F:=by unfold topD;dsimp only;rw[bitN_one];omega
 unfold isBrk
 rw[ht,bitN_one]
 by_cases h:1023<F
 ·rw[if_pos h]
  by_cases h2:F=1024
  ·subst h2;decide
  ·rw[decide_eq_false h2,decide_eq_false (show¬F≤1024 by omega),Bool.false_and,Bool.and_false]
 ·rw[if_neg h,decide_eq_true (show F≤1024 by omega),Bool.and_true]
  exact decide_eq_decide.2 (by omega)
open Go.RowKit Go.ChangeShapes Go.WideShapes
theorem bare710:bareD ⟨false,710,0⟩=⟨false,355,1⟩:=rfl
theorem bare355:bareD ⟨false,355,1⟩=⟨false,355,1⟩:=rfl
theorem of710 {w:World}(hT:Tab w):Calls Tryz.prog 51 #[.int .i64 710] w (fun e w'=>∃v,e= .returned (.agg #[.bool false,v,.int .i64 1])∧RdN w' v (digs BB 355)∧Below w.heap.size w w'):=by
 have h:=Of_n (w:=w) (n:=710) (by decide) hT bare710
 refine Calls.mono h ?_
 rintro e w' ⟨v,rfl,⟨u,rfl,hu⟩,hb⟩
 exact⟨u,rfl,hu,hb⟩
end Go.Proofs.YtffaefjkpipjnaaGreatDoor
