/- Values stand in the order of their bits; what the three tell keeps it: plainly. Conditions: none. -/
import Derived.Test.YtffaefjkpipjnaaGreatDoorPkB34
import Derived.Test.YtffaefjkpipjnaaGreatDoorPkB35
import Derived.Test.YtffaefjkpipjnaaGreatDoorPkB33
namespace Go.Proofs.YtffaefjkpipjnaaGreatDoor
set_option maxRecDepth 100000
open Go.RowKit
set_option linter.unusedVariables false
def sizeN (b:Nat):Nat:=b%9223372036854775808
theorem mnt_sig {x:Nat}(hx:x<18446744073709551616):mntN x=sigF (sizeN x)∧expN x=unitE (sizeN x):=by
 unfold mntN expN fldN frcN sigF unitE sizeN
 have e1:x%9223372036854775808/4503599627370496=x/4503599627370496%2048:=by omega
 have e2:x%9223372036854775808%4503599627370496=x%4503599627370496:=by omega
 rw[e1,e2]
 by_cases c:x/4503599627370496%2048=0
 ·rw[c,if_neg (by omega),if_pos rfl,if_pos rfl]
  refine⟨by omega,by omega⟩
 ·rw[if_pos (by omega),if_neg c,if_neg c]
  refine⟨rfl,by omega⟩
theorem szv_zero:szv 0=0:=by
 have e:sigF 0=0:=rfl
 unfold szv
 rw[e];exact Rat.zero_mul _
theorem szv_nonneg (s:Nat):0≤szv s:=by
 have:=szv_mono (Nat.zero_le s)
 rw[szv_zero]at this
 exact this
theorem val_size {x:Nat}(hx:x<18446744073709551616) (hf:fldN x<2047):qv (dyB x)=if negN x=true then-szv (sizeN x)else szv (sizeN x):=by
 obtain⟨-,-,-,hv⟩:=dyB_mid hf
 obtain⟨h1,h2⟩:=mnt_sig hx
 rw[hv]
 unfold qv szv
 dsimp only
 rw[h1,h2]
theorem ord_size {x:Nat}(hx:x<18446744073709551616):ordN x=if negN x=true then-(sizeN x:Int)else(sizeN x:Int):=by
 unfold ordN negN sizeN
 by_cases c:9223372036854775808≤x
 ·rw[if_pos c,decide_eq_true c,if_pos rfl];omega
 ·rw[if_neg c,decide_eq_false c,if_neg (by decide)];omega
theorem ord_val {x y:Nat}(hx:x<18446744073709551616) (hy:y<18446744073709551616) (fx:fldN x<2047) (fy:fldN y<2047) (h:ordN x≤ordN y):qv (dyB x)≤qv (dyB y):=by
 rw[val_size hx fx,val_size hy fy]
 rw[ord_size hx,ord_size hy]at h
 have nx:=szv_nonneg (sizeN x)
 have ny:=szv_nonneg (sizeN y)
 generalize negN x=gx at h⊢
 generalize negN y=gy at h⊢
 cases gx
 ·cases gy
  ·rw[if_neg (by decide),if_neg (by decide)]at h⊢
   exact szv_mono (by omega)
  ·rw[if_neg (by decide),if_pos rfl]at h⊢
   have e1:sizeN x=0:=by omega
   have e2:sizeN y=0:=by omega
   rw[e1,e2,szv_zero]
   decide
 ·cases gy
  ·rw[if_pos rfl,if_neg (by decide)]at h⊢
   grind
  ·rw[if_pos rfl,if_pos rfl]at h⊢
   have:=szv_mono (show sizeN y≤sizeN x by omega)
   grind
theorem size_bounds {x:Nat}(hf:fldN x<2047):sizeN x<9218868437227405312:=by
 unfold fldN at hf
 unfold sizeN
 omega
theorem size_inf' {x:Nat}(hk:kindN x=3):sizeN x=9218868437227405312:=by
 unfold kindN fldN frcN at hk
 unfold sizeN
 split at hk
 ·split at hk<;>omega
 ·split at hk
  ·omega
  ·split at hk
   ·omega
   ·split at hk<;>omega
theorem size_zero' {x:Nat}(hk:kindN x=0):sizeN x=0:=by
 unfold kindN fldN frcN at hk
 unfold sizeN
 split at hk
 ·split at hk<;>omega
 ·split at hk
  ·omega
  ·split at hk
   ·omega
   ·split at hk<;>omega
theorem size_pos' {x:Nat}(hk:kindN x≠0):0<sizeN x:=by
 rcases Nat.eq_zero_or_pos (sizeN x)with h|h
 ·exfalso
  apply hk
  unfold sizeN at h
  unfold kindN fldN frcN
  rw[if_pos (by omega),if_pos (by omega)]
 ·exact h
theorem XL.vals {v v' a c:Rat}(h1:XL (-v) a 1) (h2:XL v' 1 c) (hv:v≤v'):a≤c:=by
 have h:=h1.mul h2
 rw[Rat.mul_one,Rat.one_mul]at h
 exact(h.mono (p:=0) (by grind)).zero_le
section
variable {x y b b':Nat}{dir f f' tr tr':Int}
theorem exp_order (hx:x<18446744073709551616) (hy:y<18446744073709551616) (d0:0≤dir) (d3:dir≤3) (kx:kindN x≤3) (ky:kindN y≤3) (ho:ordN x≤ordN y) (h:CallR 0 x dir 64 512 b f 0 tr 0) (h':CallR 0 y dir 64 512 b' f' 0 tr' 0):ordN b≤ordN b':=by
 have gen:∀{z c:Nat}{g t:Int},kindN z≤3→CallR 0 z dir 64 512 c g 0 t 0→
  (kindN z=3∧negN z=true∧c=0)∨(kindN z=3∧negN z=false∧c=9218868437227405312)∨(kindN z=0∧c=4607182418800017408)∨(kindN z<3∧kindN z≠0∧RgP (HoldE (qv (dyB z))) false dir c g):=by
  intro z c g t kz hz
  rcases hz with⟨hr,-,-,-,-,he⟩|⟨-,-,⟨hs,hb,-,-,-⟩|⟨hs,hr⟩⟩
  ·exact absurd he (by decide)
  ·by_cases k0:kindN z=0
   ·refine .inr (.inr (.inl ⟨k0,?_⟩))
    rw[hb];unfold spec31;rw[if_neg (by omega),if_pos rfl,if_pos k0]
   ·by_cases k3:kindN z=3
    ·cases hn:negN z
     ·refine .inr (.inl ⟨k3,rfl,?_⟩)
      rw[hb];unfold spec31;rw[if_neg (by omega),if_pos rfl,if_neg k0,if_pos k3,if_neg (by rw[hn];decide)]
      have:=size_inf' k3
      unfold negN at hn
      have:=of_decide_eq_false hn
      unfold sizeN at*
      omega
     ·refine .inl ⟨k3,rfl,?_⟩
      rw[hb];unfold spec31;rw[if_neg (by omega),if_pos rfl,if_neg k0,if_pos k3,if_pos hn]
    ·exfalso
     unfold spec31 at hs
     rw[if_neg (by omega),if_pos rfl,if_neg k0,if_neg k3]at hs
     cases hs
  ·have hkk:kindN z≠0∧kindN z≠3:=by
    constructor
    ·intro k0;unfold spec31 at hs;rw[if_neg (by omega),if_pos rfl,if_pos k0]at hs;cases hs
    ·intro k3
     by_cases k0:kindN z=0
     ·omega
     ·unfold spec31 at hs;rw[if_neg (by omega),if_pos rfl,if_neg k0,if_pos k3]at hs
      split at hs<;>cases hs
   have hf:=kind_fin.1 (show kindN z<3 by omega)
   exact .inr (.inr (.inr ⟨by omega,hkk.1,exp_rg hr d0 d3 (fun h0=>hkk.1 ((kind_zero hf).2 h0))⟩))
 have hox:=ord_size hx
 have hoy:=ord_size hy
 have o0:ordN 0=0:=by decide
 have o1:ordN 4607182418800017408=4607182418800017408:=by decide
 have oi:ordN 9218868437227405312=9218868437227405312:=by decide
 rcases gen kx h with⟨k3,n3,rfl⟩|⟨k3,n3,rfl⟩|⟨k0,rfl⟩|⟨kl,kz,M1,E1,M2,E2,p1,p2,q1,q2⟩
 ·rcases gen ky h' with⟨-,-,rfl⟩|⟨-,-,rfl⟩|⟨-,rfl⟩|⟨-,-,M3,E3,M4,E4,p3,p4,q3,q4⟩
  ·exact Int.le_refl _
  ·omega
  ·omega
  ·have:=(end_ord p3).1 rfl;omega
 ·have sx:=size_inf' k3
  rw[n3,if_neg (by decide)]at hox
  rcases gen ky h' with⟨k3',n3',rfl⟩|⟨-,-,rfl⟩|⟨k0',rfl⟩|⟨kl',kz',-⟩
  ·rw[n3',if_pos rfl]at hoy;omega
  ·exact Int.le_refl _
  ·have:=size_zero' k0';rw[this]at hoy;split at hoy<;>omega
  ·have:=size_bounds (kind_fin.1 kl');split at hoy<;>omega
 ·have sx:=size_zero' k0
  rcases gen ky h' with⟨k3',n3',rfl⟩|⟨-,-,rfl⟩|⟨k0',rfl⟩|⟨kl',kz',M3,E3,M4,E4,p3,p4,q3,q4⟩
  ·have:=size_inf' k3';rw[n3',if_pos rfl]at hoy;split at hox<;>omega
  ·omega
  ·exact Int.le_refl _
  ·have hv:=ord_val hx hy (kind_fin.1 (by omega)) (kind_fin.1 kl') ho
   rw[val_size hx (kind_fin.1 (by omega)),sx,szv_zero]at hv
   have hv0:0≤qv (dyB y):=by split at hv<;>grind
   have h1:1≤(M4:Rat)*pw E4:=(q4.mono hv0).zero_le
   have m:=sz_mono (n:=false) (dir:=dir) (M:=1) (E:=0) (M':=M4) (E':=E4) (by decide) p4.ne (by rw[one_m,pw_zero];exact h1)
   rw[szB_one false d0 d3]at m
   rw[p4.sz,ord_signed (szB_le p4.ne),if_neg (by decide),o1]
   omega
 ·rcases gen ky h' with⟨k3',n3',rfl⟩|⟨-,-,rfl⟩|⟨k0',rfl⟩|⟨kl',kz',M3,E3,M4,E4,p3,p4,q3,q4⟩
  ·have:=size_inf' k3';have:=size_bounds (kind_fin.1 kl);rw[n3',if_pos rfl]at hoy;split at hox<;>omega
  ·have:=(end_ord p1).1 rfl;omega
  ·have sy:=size_zero' k0'
   have hv:=ord_val hx hy (kind_fin.1 kl) (kind_fin.1 (by omega)) ho
   rw[val_size hy (kind_fin.1 (by omega)),sy,szv_zero]at hv
   have hv0:qv (dyB x)≤0:=by split at hv<;>grind
   have h1:(M1:Rat)*pw E1≤1:=(q1.mono (p:=0) (by grind)).zero_le
   have m:=sz_mono (n:=false) (dir:=dir) (M:=M1) (E:=E1) (M':=1) (E':=0) p1.ne (by decide) (by rw[one_m,pw_zero];exact h1)
   rw[szB_one false d0 d3]at m
   rw[p1.sz,ord_signed (szB_le p1.ne),if_neg (by decide),o1]
   omega
  ·have hv:=ord_val hx hy (kind_fin.1 kl) (kind_fin.1 kl') ho
   exact(rg_order p1 p2 p3 p4).1 (XL.vals q1 q4 hv) rfl
end
end Go.Proofs.YtffaefjkpipjnaaGreatDoor

namespace Go.Proofs.YtffaefjkpipjnaaGreatDoor
set_option maxRecDepth 100000
open Go.RowKit
set_option linter.unusedVariables false
theorem not_neg {z:Nat}(h:negN z=false):z<9223372036854775808:=by
 unfold negN at h
 have:=of_decide_eq_false h
 omega
theorem pos_ord {z:Nat}(h:negN z=false):ordN z=(z:Int):=by
 have:=not_neg h
 unfold ordN
 rw[if_neg (by omega)]
section
variable {x y b b':Nat}{dir f f' tr tr':Int}
theorem ln_gen {z c:Nat}{g t:Int}(hz:z<18446744073709551616) (kz:kindN z≤3) (nz:negN z=false) (h:CallR 1 z dir 64 512 c g 0 t 0):
 (kindN z=0∧c=18442240474082181120)∨(kindN z=3∧c=9218868437227405312)∨(z=4607182418800017408∧c=0)∨(kindN z<3∧kindN z≠0∧z≠4607182418800017408∧RgP (HoldL (decide (z<4607182418800017408)) (qv (dyB z))) (decide (z<4607182418800017408)) dir c g):=by
 have nn:¬negN z=true:=by rw[nz];decide
 rcases h with⟨hr,-,-,-,-,he⟩|⟨-,-,⟨hs,hb,-,-,-⟩|⟨hs,hr⟩⟩
 ·exact absurd he (by decide)
 ·by_cases k0:kindN z=0
  ·refine .inl ⟨k0,?_⟩
   rw[hb];unfold spec31;rw[if_neg (by omega),if_neg (by decide),if_pos rfl,if_pos k0]
  ·by_cases k1:z=4607182418800017408
   ·refine .inr (.inr (.inl ⟨k1,?_⟩))
    rw[hb];unfold spec31;rw[if_neg (by omega),if_neg (by decide),if_pos rfl,if_neg k0,if_neg nn,if_pos k1]
   ·by_cases k3:kindN z=3
    ·refine .inr (.inl ⟨k3,?_⟩)
     rw[hb];unfold spec31;rw[if_neg (by omega),if_neg (by decide),if_pos rfl,if_neg k0,if_neg nn,if_neg k1,if_pos k3]
     exact kind_inf hz k3 nz
    ·exfalso
     unfold spec31 at hs
     rw[if_neg (by omega),if_neg (by decide),if_pos rfl,if_neg k0,if_neg nn,if_neg k1,if_neg k3]at hs
     cases hs
 ·have hkk:kindN z≠0∧z≠4607182418800017408∧kindN z≠3:=by
   by_cases k0:kindN z=0
   ·exfalso;unfold spec31 at hs;rw[if_neg (by omega),if_neg (by decide),if_pos rfl,if_pos k0]at hs;cases hs
   ·by_cases k1:z=4607182418800017408
    ·exfalso;unfold spec31 at hs;rw[if_neg (by omega),if_neg (by decide),if_pos rfl,if_neg k0,if_neg nn,if_pos k1]at hs;cases hs
    ·by_cases k3:kindN z=3
     ·exfalso;unfold spec31 at hs;rw[if_neg (by omega),if_neg (by decide),if_pos rfl,if_neg k0,if_neg nn,if_neg k1,if_pos k3]at hs;cases hs
     ·exact⟨k0,k1,k3⟩
  exact .inr (.inr (.inr ⟨by omega,hkk.1,hkk.2.1,ln_rg hr⟩))
theorem ln_order (hx:x<18446744073709551616) (hy:y<18446744073709551616) (kx:kindN x≤3) (ky:kindN y≤3) (nx:negN x=false) (ny:negN y=false) (ho:ordN x≤ordN y) (h:CallR 1 x dir 64 512 b f 0 tr 0) (h':CallR 1 y dir 64 512 b' f' 0 tr' 0):ordN b≤ordN b':=by
 rw[pos_ord nx,pos_ord ny]at ho
 have lx:=not_neg nx
 have ly:=not_neg ny
 have o0:ordN 0=0:=by decide
 have om:ordN 18442240474082181120= -9218868437227405312:=by decide
 have oi:ordN 9218868437227405312=9218868437227405312:=by decide
 have sx:sizeN x=x:=by unfold sizeN;omega
 have sy:sizeN y=y:=by unfold sizeN;omega
 have bnd:∀{n:Bool}{P:Rat→Rat→Prop}{c:Nat}{g:Int},RgP P n dir c g→-9218868437227405312≤ordN c∧ordN c≤9218868437227405312∧(n=true→ordN c≤0)∧(n=false→0≤ordN c):=by
  rintro n P c g ⟨M,E,-,-,o,-,-⟩
  obtain⟨u1,u2⟩:=end_ord o
  cases n
  ·have:=u1 rfl;exact⟨by omega,by omega,(fun h=>by cases h),(fun _=>by omega)⟩
  ·have:=u2 rfl;exact⟨by omega,by omega,(fun _=>by omega),(fun h=>by cases h)⟩
 rcases ln_gen hx kx nx h with⟨k0,rfl⟩|⟨k3,rfl⟩|⟨k1,rfl⟩|⟨kl,kz,k1,hR⟩
 ·rcases ln_gen hy ky ny h' with⟨-,rfl⟩|⟨-,rfl⟩|⟨-,rfl⟩|⟨-,-,-,hR'⟩
  ·exact Int.le_refl _
  ·omega
  ·omega
  ·have:=(bnd hR').1;omega
 ·have s3:=size_inf' k3
  rcases ln_gen hy ky ny h' with⟨k0',rfl⟩|⟨-,rfl⟩|⟨k1',rfl⟩|⟨kl',-,-,hR'⟩
  ·have:=size_zero' k0';omega
  ·exact Int.le_refl _
  ·omega
  ·have:=size_bounds (kind_fin.1 kl');omega
 ·rcases ln_gen hy ky ny h' with⟨k0',rfl⟩|⟨-,rfl⟩|⟨k1',rfl⟩|⟨kl',-,k1',hR'⟩
  ·have:=size_zero' k0';omega
  ·omega
  ·exact Int.le_refl _
  ·have:=(bnd hR').2.2.2 (decide_eq_false (by omega));omega
 ·rcases ln_gen hy ky ny h' with⟨k0',rfl⟩|⟨-,rfl⟩|⟨k1',rfl⟩|⟨kl',kz',k1',hR'⟩
  ·have:=size_zero' k0';have:=size_pos' kz;omega
  ·have:=(bnd hR).2.1;omega
  ·have:=(bnd hR).2.2.1 (decide_eq_true (by omega));omega
  ·have hv:=ord_val hx hy (kind_fin.1 kl) (kind_fin.1 kl') (by rw[pos_ord nx,pos_ord ny];exact ho)
   by_cases cx:x<4607182418800017408
   ·by_cases cy:y<4607182418800017408
    ·rw[decide_eq_true cx]at hR
     rw[decide_eq_true cy]at hR'
     obtain⟨M1,E1,M2,E2,p1,p2,hq⟩:=hR
     obtain⟨M3,E3,M4,E4,p3,p4,hq'⟩:=hR'
     unfold HoldL at hq hq'
     rw[if_pos rfl]at hq hq'
     have k:=hq'.1.mul hq.2
     rw[Rat.mul_one,Rat.one_mul]at k
     have k2:=(k.up hv).le_zero
     exact(rg_order p1 p2 p3 p4).2 (by grind) rfl
    ·have a1:=(bnd hR).2.2.1 (decide_eq_true cx)
     have a2:=(bnd hR').2.2.2 (decide_eq_false cy)
     omega
   ·rw[decide_eq_false cx]at hR
    rw[decide_eq_false (show¬y<4607182418800017408 by omega)]at hR'
    obtain⟨M1,E1,M2,E2,p1,p2,hq⟩:=hR
    obtain⟨M3,E3,M4,E4,p3,p4,hq'⟩:=hR'
    unfold HoldL at hq hq'
    rw[if_neg (by decide)]at hq hq'
    exact(rg_order p1 p2 p3 p4).1 ((hq.1.up hv).le_of hq'.2) rfl
theorem ex1_gen {z c:Nat}{g t:Int}(d0:0≤dir) (d3:dir≤3) (hz:z<18446744073709551616) (kz:kindN z≤3) (h:CallR 2 z dir 64 512 c g 0 t 0):
 (kindN z=3∧negN z=true∧c=13830554455654793216)∨(kindN z=3∧negN z=false∧c=9218868437227405312)∨(kindN z=0∧c=z)∨(kindN z<3∧kindN z≠0∧RgP (HoldX (negN z) (qv (dyB z))) (negN z) dir c g):=by
 rcases h with⟨hr,-,-,-,-,he⟩|⟨-,-,⟨hs,hb,-,-,-⟩|⟨hs,hr⟩⟩
 ·exact absurd he (by decide)
 ·by_cases k3:kindN z=3
  ·cases hn:negN z
   ·refine .inr (.inl ⟨k3,rfl,?_⟩)
    rw[hb];unfold spec31;rw[if_neg (by omega),if_neg (by decide),if_neg (by decide),if_pos k3,if_neg (by rw[hn];decide)]
    exact kind_inf hz k3 hn
   ·refine .inl ⟨k3,rfl,?_⟩
    rw[hb];unfold spec31;rw[if_neg (by omega),if_neg (by decide),if_neg (by decide),if_pos k3,if_pos hn]
  ·by_cases k0:kindN z=0
   ·refine .inr (.inr (.inl ⟨k0,?_⟩))
    rw[hb];unfold spec31;rw[if_neg (by omega),if_neg (by decide),if_neg (by decide),if_neg k3,if_pos k0]
   ·exfalso
    unfold spec31 at hs
    rw[if_neg (by omega),if_neg (by decide),if_neg (by decide),if_neg k3,if_neg k0]at hs
    cases hs
 ·have hkk:kindN z≠0∧kindN z≠3:=by
   by_cases k3:kindN z=3
   ·exfalso;unfold spec31 at hs;rw[if_neg (by omega),if_neg (by decide),if_neg (by decide),if_pos k3]at hs
    split at hs<;>cases hs
   ·by_cases k0:kindN z=0
    ·exfalso;unfold spec31 at hs;rw[if_neg (by omega),if_neg (by decide),if_neg (by decide),if_neg k3,if_pos k0]at hs;cases hs
    ·exact⟨k0,k3⟩
  have hf:=kind_fin.1 (show kindN z<3 by omega)
  exact .inr (.inr (.inr ⟨by omega,hkk.1,ex1_rg hr d0 d3 hf (fun h0=>hkk.1 ((kind_zero hf).2 h0))⟩))
theorem ex1_order (hx:x<18446744073709551616) (hy:y<18446744073709551616) (d0:0≤dir) (d3:dir≤3) (kx:kindN x≤3) (ky:kindN y≤3) (ho:ordN x≤ordN y) (h:CallR 2 x dir 64 512 b f 0 tr 0) (h':CallR 2 y dir 64 512 b' f' 0 tr' 0):ordN b≤ordN b':=by
 have hox:=ord_size hx
 have hoy:=ord_size hy
 have om:ordN 13830554455654793216= -4607182418800017408:=by decide
 have oi:ordN 9218868437227405312=9218868437227405312:=by decide
 have bnd:∀{n:Bool}{v:Rat}{c:Nat}{g:Int},RgP (HoldX n v) n dir c g→-4607182418800017408≤ordN c∧ordN c≤9218868437227405312∧(n=true→ordN c≤0)∧(n=false→0≤ordN c):=by
  rintro n v c g ⟨M,E,M',E',o,o',hq⟩
  obtain⟨u1,u2⟩:=end_ord o
  cases n
  ·have:=u1 rfl;exact⟨by omega,by omega,(fun h=>by cases h),(fun _=>by omega)⟩
  ·have:=u2 rfl
   unfold HoldX at hq
   rw[if_pos rfl]at hq
   have hlt:(M:Rat)*pw E≤1:=by have:=hq.1.2.1;grind
   have m:=sz_mono (n:=true) (dir:=dir) (M:=M) (E:=E) (M':=1) (E':=0) o.ne (by decide) (by rw[one_m,pw_zero];exact hlt)
   rw[szB_one true d0 d3]at m
   have e:=o.sz
   have e2:ordN c= -(szB true M E dir:Int):=by rw[e,ord_signed (szB_le o.ne),if_pos rfl]
   exact⟨by omega,by omega,(fun _=>by omega),(fun h=>by cases h)⟩
 have vs:∀{z:Nat},z<18446744073709551616→kindN z<3→kindN z≠0→(negN z=true→qv (dyB z)<0)∧(negN z=false→0<qv (dyB z)):=by
  intro z hz k3 k0
  have hp:=szv_mono_lt (size_pos' k0)
  rw[szv_zero]at hp
  rw[val_size hz (kind_fin.1 k3)]
  constructor
  ·intro hn;rw[hn,if_pos rfl];grind
  ·intro hn;rw[hn,if_neg (by decide)];exact hp
 rcases ex1_gen d0 d3 hx kx h with⟨k3,n3,rfl⟩|⟨k3,n3,rfl⟩|⟨k0,hbx⟩|⟨kl,kz,hR⟩
 ·rcases ex1_gen d0 d3 hy ky h' with⟨-,-,rfl⟩|⟨-,-,rfl⟩|⟨k0',hby⟩|⟨-,-,hR'⟩
  ·exact Int.le_refl _
  ·omega
  ·have:=size_zero' k0';rw[hby,hoy,this];split<;>omega
  ·have:=(bnd hR').1;omega
 ·have s3:=size_inf' k3
  rw[n3,if_neg (by decide)]at hox
  rcases ex1_gen d0 d3 hy ky h' with⟨k3',n3',rfl⟩|⟨-,-,rfl⟩|⟨k0',hby⟩|⟨kl',-,hR'⟩
  ·rw[n3',if_pos rfl]at hoy;omega
  ·exact Int.le_refl _
  ·have:=size_zero' k0';rw[this]at hoy;split at hoy<;>omega
  ·have:=size_bounds (kind_fin.1 kl');split at hoy<;>omega
 ·have sx:=size_zero' k0
  have ox0:ordN b=0:=by rw[hbx,hox,sx];split<;>omega
  rcases ex1_gen d0 d3 hy ky h' with⟨k3',n3',rfl⟩|⟨-,-,rfl⟩|⟨k0',hby⟩|⟨kl',kz',hR'⟩
  ·have:=size_inf' k3';rw[n3',if_pos rfl]at hoy;split at hox<;>omega
  ·omega
  ·have:=size_zero' k0'
   have:ordN b'=0:=by rw[hby,hoy,this];split<;>omega
   omega
  ·have hp:=size_pos' kz'
   have hn:negN y=false:=by
    cases hn:negN y
    ·rfl
    ·rw[hn,if_pos rfl]at hoy;split at hox<;>omega
   have:=(bnd hR').2.2.2 hn
   omega
 ·rcases ex1_gen d0 d3 hy ky h' with⟨k3',n3',rfl⟩|⟨-,-,rfl⟩|⟨k0',hby⟩|⟨kl',kz',hR'⟩
  ·have:=size_inf' k3';have:=size_bounds (kind_fin.1 kl);rw[n3',if_pos rfl]at hoy;split at hox<;>omega
  ·have:=(bnd hR).2.1;omega
  ·have s0:=size_zero' k0'
   have e0:ordN b'=0:=by rw[hby,hoy,s0];split<;>omega
   have hp:=size_pos' kz
   have hn:negN x=true:=by
    cases hn:negN x
    ·rw[hn,if_neg (by decide)]at hox;rw[s0]at hoy;split at hoy<;>omega
    ·rfl
   have:=(bnd hR).2.2.1 hn
   omega
  ·have hv:=ord_val hx hy (kind_fin.1 kl) (kind_fin.1 kl') ho
   have sx:=vs hx kl kz
   have sy:=vs hy kl' kz'
   cases hnx:negN x
   ·have h1:=sx.2 hnx
    have hny:negN y=false:=by
     cases h:negN y
     ·rfl
     ·have:=sy.1 h;exfalso;grind
    rw[hnx]at hR
    rw[hny]at hR'
    obtain⟨M1,E1,M2,E2,p1,p2,hq⟩:=hR
    obtain⟨M3,E3,M4,E4,p3,p4,hq'⟩:=hR'
    unfold HoldX at hq hq'
    rw[if_neg (by decide)]at hq hq'
    have:=XL.vals hq.1 hq'.2 hv
    exact(rg_order p1 p2 p3 p4).1 (by grind) rfl
   ·cases hny:negN y
    ·have a1:=(bnd hR).2.2.1 hnx
     have a2:=(bnd hR').2.2.2 hny
     omega
    ·rw[hnx]at hR
     rw[hny]at hR'
     obtain⟨M1,E1,M2,E2,p1,p2,hq⟩:=hR
     obtain⟨M3,E3,M4,E4,p3,p4,hq'⟩:=hR'
     unfold HoldX at hq hq'
     rw[if_pos rfl]at hq hq'
     refine(rg_order p1 p2 p3 p4).2 ?_ rfl
     rcases hq.2 with h1|h1
     ·have:=hq'.1.2.1;grind
     ·have:=XL.vals h1 hq'.1 hv;grind
theorem point_dirs {n:Bool}{M:Nat}{E:Int}{d:Int}(h0:M≠0) (ix:(toB n M E false d).2≠0):
 szB n M E (if n=true then 3 else 2)=szB n M E (if n=true then 2 else 3)+1∧(szB n M E 0=szB n M E 2∨szB n M E 0=szB n M E 3):=by
 have u2:upB (if n=true then 3 else 2) n=true:=by cases n<;>rfl
 have u3:upB (if n=true then 2 else 3) n=false:=by cases n<;>rfl
 have z2:decide ((if n=true then 3 else 2:Int)=0)=false:=by cases n<;>rfl
 have z3:decide ((if n=true then 2 else 3:Int)=0)=false:=by cases n<;>rfl
 have u0:upB 0 n=false:=by cases n<;>rfl
 have two:∀A B C:Nat,szB n M E (if n=true then 3 else 2)=A→szB n M E (if n=true then 2 else 3)=B→szB n M E 0=C→A=B+1→(C=A∨C=B)→szB n M E (if n=true then 3 else 2)=szB n M E (if n=true then 2 else 3)+1∧(szB n M E 0=szB n M E 2∨szB n M E 0=szB n M E 3):=by
  intro A B C hA hB hC h1 h2
  refine⟨by omega,?_⟩
  cases n
  ·rw[if_neg (by decide)]at hA hB;omega
  ·rw[if_pos rfl]at hA hB;omega
 by_cases g1:1023<topD ⟨n,M,E⟩
 ·have e:∀d,szB n M E d=if decide (d=0)||upB d n then 9218868437227405312 else 9218868437227405311:=fun d=>by unfold szB;rw[if_pos g1]
  exact two 9218868437227405312 9218868437227405311 9218868437227405312 (by rw[e,z2,u2];rfl) (by rw[e,z3,u3];rfl) (by rw[e];rfl) rfl (.inl rfl)
 by_cases g2:topD ⟨n,M,E⟩< -1075
 ·have e:∀d,szB n M E d=if upB d n then 1 else 0:=fun d=>by unfold szB;rw[if_neg g1,if_pos g2]
  exact two 1 0 0 (by rw[e,u2];rfl) (by rw[e,u3];rfl) (by rw[e,u0];rfl) rfl (.inr rfl)
 have e:∀d,szB n M E d=sizeB n M E false d:=fun d=>by unfold szB;rw[if_neg g1,if_neg g2]
 obtain⟨q,h,b,hp⟩:∃q h b,partsP M E (unitB (topD ⟨n,M,E⟩))=(q,h,b):=⟨_,_,_,rfl⟩
 have ew:∀d,sizeB n M E false d=q+(if awayB d n (decide (q%2=1)) h b then 1 else 0)+(unitB (topD ⟨n,M,E⟩)+1074).toNat*4503599627370496:=fun d=>by
  unfold sizeB wholeP
  rw[hp]
  dsimp only
  rw[Bool.or_false]
 have hor:(h||b)=true:=by
  cases hh:(h||b)
  ·exfalso
   have h1:h=false:=by cases h;rfl;cases hh
   have h2:b=false:=by cases b;rfl;rw[h1]at hh;cases hh
   have hx:=ix
   unfold toB at hx
   rw[if_neg g1,if_neg g2]at hx
   dsimp only at hx
   unfold flagB at hx
   have hw:(wholeP n M E false d (unitB (topD ⟨n,M,E⟩))).2=false:=by
    unfold wholeP
    rw[hp,h1,h2];rfl
   rw[hw]at hx
   have hs:sizeB n M E false d≠9218868437227405312:=by
    rw[ew,h1,h2]
    have hbt:=parts_bits (n:=n) h0 (rfl:topD ⟨n,M,E⟩=_)
    rw[hp]at hbt
    dsimp only at hbt
    have hu:unitB (topD ⟨n,M,E⟩)=max (topD ⟨n,M,E⟩-52) (-1074):=rfl
    have h53:bitN q≤53:=by omega
    have hq:=bits53 h53
    have ha:awayB d n (decide (q%2=1)) false false=false:=by unfold awayB;split<;>rfl
    rw[ha,if_neg (by decide)]
    generalize unitB (topD ⟨n,M,E⟩)=u at*
    omega
   rw[if_neg hs,if_neg (by decide)]at hx
   exact hx rfl
  ·rfl
 have a2:awayB (if n=true then 3 else 2) n (decide (q%2=1)) h b=true:=by
  unfold awayB
  rw[if_neg (by cases n<;>decide),hor,u2];rfl
 have a3:awayB (if n=true then 2 else 3) n (decide (q%2=1)) h b=false:=by
  unfold awayB
  rw[if_neg (by cases n<;>decide),hor,u3];rfl
 refine two _ _ _ (by rw[e,ew,a2,if_pos rfl]) (by rw[e,ew,a3,if_neg (by decide)]) (by rw[e,ew]) (by omega) ?_
 cases awayB 0 n (decide (q%2=1)) h b
 ·right;rw[if_neg (by decide)]
 ·left;rw[if_pos rfl]
theorem rg_dirs {n:Bool}{P:Rat→Rat→Prop}(hP:∀a c a' c',P a c→P a' c'→a≤c') {b1 b2 b0:Nat}{f1 f2 f0:Int}(h1:RgP P n 3 b1 f1) (h2:RgP P n 2 b2 f2) (h3:RgP P n 0 b0 f0):
 ordN b2-ordN b1=1∧(b0=b2∨b0=b1)∧sizeN b1≤9218868437227405312∧sizeN b2≤9218868437227405312:=by
 obtain⟨M1,E1,M1',E1',o1,o1',q1⟩:=h1
 obtain⟨M2,E2,M2',E2',o2,o2',q2⟩:=h2
 obtain⟨M3,E3,M3',E3',o3,o3',q3⟩:=h3
 have mid:∀{M:Nat}{E d f:Int}{b:Nat},End n M E d b f→(M1:Rat)*pw E1≤(M:Rat)*pw E→(M2:Rat)*pw E2≤(M:Rat)*pw E→(M3:Rat)*pw E3≤(M:Rat)*pw E→(M:Rat)*pw E≤(M1':Rat)*pw E1'→(M:Rat)*pw E≤(M2':Rat)*pw E2'→(M:Rat)*pw E≤(M3':Rat)*pw E3'→
  ordN b2-ordN b1=1∧(b0=b2∨b0=b1)∧sizeN b1≤9218868437227405312∧sizeN b2≤9218868437227405312:=by
  intro M E d f b o u1 u2 u3 w1 w2 w3
  have s1:szB n M E 3=szB n M1 E1 3:=by
   have a:=sz_mono (n:=n) (dir:=3) o1.ne o.ne u1
   have c:=sz_mono (n:=n) (dir:=3) o.ne o1'.ne w1
   have e:=signedB_inj (o1.sz.symm.trans o1'.sz)
   omega
  have s2:szB n M E 2=szB n M2 E2 2:=by
   have a:=sz_mono (n:=n) (dir:=2) o2.ne o.ne u2
   have c:=sz_mono (n:=n) (dir:=2) o.ne o2'.ne w2
   have e:=signedB_inj (o2.sz.symm.trans o2'.sz)
   omega
  have s3:szB n M E 0=szB n M3 E3 0:=by
   have a:=sz_mono (n:=n) (dir:=0) o3.ne o.ne u3
   have c:=sz_mono (n:=n) (dir:=0) o.ne o3'.ne w3
   have e:=signedB_inj (o3.sz.symm.trans o3'.sz)
   omega
  obtain⟨p1,p2⟩:=point_dirs (n:=n) (M:=M) (E:=E) (d:=d) o.ne (by rw[o.tob];exact o.ix)
  have l1:=szB_le (n:=n) (E:=E1) (dir:=3) o1.ne
  have l2:=szB_le (n:=n) (E:=E2) (dir:=2) o2.ne
  have e1:=o1.sz
  have e2:=o2.sz
  have e3:=o3.sz
  have q1:=ord_signed (n:=n) l1
  have q2:=ord_signed (n:=n) l2
  rw[←e1]at q1
  rw[←e2]at q2
  rw[s1,s2,s3]at p2
  have z1:sizeN b1=szB n M1 E1 3:=by
   rw[e1];unfold signedB sizeN;split<;>omega
  have z2:sizeN b2=szB n M2 E2 2:=by
   rw[e2];unfold signedB sizeN;split<;>omega
  refine⟨?_,?_,by omega,by omega⟩
  ·cases n
   ·rw[if_neg (by decide),if_neg (by decide),s1,s2]at p1
    rw[if_neg (by decide)]at q1 q2
    omega
   ·rw[if_pos rfl,if_pos rfl,s1,s2]at p1
    rw[if_pos rfl]at q1 q2
    omega
  ·rcases p2 with h|h
   ·left;rw[e3,e2,h]
   ·right;rw[e3,e1,h]
 have k11:=hP _ _ _ _ q1 q1
 have k12:=hP _ _ _ _ q1 q2
 have k13:=hP _ _ _ _ q1 q3
 have k21:=hP _ _ _ _ q2 q1
 have k22:=hP _ _ _ _ q2 q2
 have k23:=hP _ _ _ _ q2 q3
 have k31:=hP _ _ _ _ q3 q1
 have k32:=hP _ _ _ _ q3 q2
 have k33:=hP _ _ _ _ q3 q3
 rcases rq_total ((M1:Rat)*pw E1) ((M2:Rat)*pw E2)with h|h
 ·rcases rq_total ((M2:Rat)*pw E2) ((M3:Rat)*pw E3)with g|g
  ·exact mid o3 (Rat.le_trans h g) g Rat.le_refl k31 k32 k33
  ·exact mid o2 h Rat.le_refl g k21 k22 k23
 ·rcases rq_total ((M1:Rat)*pw E1) ((M3:Rat)*pw E3)with g|g
  ·exact mid o3 g (Rat.le_trans h g) Rat.le_refl k31 k32 k33
  ·exact mid o1 Rat.le_refl h g k11 k12 k13
theorem holdE_le {v:Rat}:∀a c a' c',HoldE v a c→HoldE v a' c'→a≤c':=fun a c a' c' h h'=>exp_le h.1 h'.2
theorem holdL_le {n:Bool}{v:Rat}:∀a c a' c',HoldL n v a c→HoldL n v a' c'→a≤c':=by
 intro a c a' c' h h'
 unfold HoldL at h h'
 cases n
 ·rw[if_neg (by decide)]at h h'
  exact h.1.le_of h'.2
 ·rw[if_pos rfl]at h h'
  have k:=h.1.mul h'.2
  rw[Rat.mul_one,Rat.one_mul]at k
  have:=k.le_zero
  grind
theorem holdX_le {n:Bool}{v:Rat}:∀a c a' c',HoldX n v a c→HoldX n v a' c'→a≤c':=by
 intro a c a' c' h h'
 unfold HoldX at h h'
 cases n
 ·rw[if_neg (by decide)]at h h'
  have:=exp_le h.1 h'.2
  grind
 ·rw[if_pos rfl]at h h'
  rcases h'.2 with g|g
  ·have:=h.1.2.1;grind
  ·have:=exp_le g h.1;grind
theorem call_dirs {k b1 b2 b0:Nat}{f1 f2 f0 t1 t2 t0:Int}(hk:k<3) (hx:x<18446744073709551616) (kx:kindN x≤3) (nx:k=1→negN x=false) (hs:(spec31 k x).2.2=false)
 (h1:CallR k x 3 64 512 b1 f1 0 t1 0) (h2:CallR k x 2 64 512 b2 f2 0 t2 0) (h0:CallR k x 0 64 512 b0 f0 0 t0 0):ordN b2-ordN b1=1∧(b0=b2∨b0=b1)∧sizeN b1≤9218868437227405312∧sizeN b2≤9218868437227405312:=by
 have res:∀{d:Int}{b:Nat}{f t:Int},CallR k x d 64 512 b f 0 t 0→Res31 k x 64 512 d b f 0 t:=by
  intro d b f t h
  rcases h with⟨-,-,-,-,-,he⟩|⟨-,-,⟨h,-⟩|⟨-,hr⟩⟩
  ·exact absurd he (by decide)
  ·rw[hs]at h;cases h
  ·exact hr
 have r1:=res h1;have r2:=res h2;have r0:=res h0
 have hk0:k=0∨k=1∨k=2:=by omega
 rcases hk0 with rfl|rfl|rfl
 ·have hz:kindN x≠0:=fun k0=>by unfold spec31 at hs;rw[if_neg (by omega),if_pos rfl,if_pos k0]at hs;cases hs
  have k3:kindN x≠3:=fun k3=>by
   unfold spec31 at hs;rw[if_neg (by omega),if_pos rfl,if_neg hz,if_pos k3]at hs
   split at hs<;>cases hs
  have hf:=kind_fin.1 (show kindN x<3 by omega)
  have hm:(dyB x).m≠0:=fun h=>hz ((kind_zero hf).2 h)
  exact rg_dirs holdE_le (exp_rg r1 (by decide) (by decide) hm) (exp_rg r2 (by decide) (by decide) hm) (exp_rg r0 (by decide) (by decide) hm)
 ·exact rg_dirs holdL_le (ln_rg r1) (ln_rg r2) (ln_rg r0)
 ·have k3:kindN x≠3:=fun k3=>by
   unfold spec31 at hs;rw[if_neg (by omega),if_neg (by decide),if_neg (by decide),if_pos k3]at hs
   split at hs<;>cases hs
  have hz:kindN x≠0:=fun k0=>by unfold spec31 at hs;rw[if_neg (by omega),if_neg (by decide),if_neg (by decide),if_neg k3,if_pos k0]at hs;cases hs
  have hf:=kind_fin.1 (show kindN x<3 by omega)
  have hm:(dyB x).m≠0:=fun h=>hz ((kind_zero hf).2 h)
  exact rg_dirs holdX_le (ex1_rg r1 (by decide) (by decide) hf hm) (ex1_rg r2 (by decide) (by decide) hf hm) (ex1_rg r0 (by decide) (by decide) hf hm)
theorem call_order {k:Nat}(hk:k<3) (hx:x<18446744073709551616) (hy:y<18446744073709551616) (d0:0≤dir) (d3:dir≤3) (kx:kindN x≤3) (ky:kindN y≤3) (nx:k=1→negN x=false) (ny:k=1→negN y=false) (ho:ordN x≤ordN y) (h:CallR k x dir 64 512 b f 0 tr 0) (h':CallR k y dir 64 512 b' f' 0 tr' 0):ordN b≤ordN b':=by
 have hk0:k=0∨k=1∨k=2:=by omega
 rcases hk0 with rfl|rfl|rfl
 ·exact exp_order hx hy d0 d3 kx ky ho h h'
 ·exact ln_order hx hy kx ky (nx rfl) (ny rfl) ho h h'
 ·exact ex1_order hx hy d0 d3 kx ky ho h h'
end
end Go.Proofs.YtffaefjkpipjnaaGreatDoor

namespace Go.Proofs.YtffaefjkpipjnaaGreatDoor
set_option linter.unusedVariables false
set_option linter.unusedSimpArgs false
set_option maxRecDepth 100000
open Go.RowKit Go.ChangeShapes Go.WideShapes
theorem cells3b {w:World}{b c:Nat}{x y z x' y' z':Value}(h:Blk w b #[x,y,z]) (k:Blk w c #[x',y',z']):(w.cell? ⟨b,0,none⟩=some x∧w.cell? ⟨b,1,none⟩=some y∧w.cell? ⟨b,2,none⟩=some z)∧w.cell? ⟨c,0,none⟩=some x'∧w.cell? ⟨c,1,none⟩=some y'∧w.cell? ⟨c,2,none⟩=some z':=⟨cells3 h,cells3 k⟩
theorem cells3c {w:World}{b c d:Nat}{x y z x' y' z' x2 y2 z2:Value}(h:Blk w b #[x,y,z]) (k:Blk w c #[x',y',z']) (l:Blk w d #[x2,y2,z2]):(w.cell? ⟨b,0,none⟩=some x∧w.cell? ⟨b,1,none⟩=some y∧w.cell? ⟨b,2,none⟩=some z)∧(w.cell? ⟨c,0,none⟩=some x'∧w.cell? ⟨c,1,none⟩=some y'∧w.cell? ⟨c,2,none⟩=some z')∧w.cell? ⟨d,0,none⟩=some x2∧w.cell? ⟨d,1,none⟩=some y2∧w.cell? ⟨d,2,none⟩=some z2:=⟨cells3 h,cells3 k,cells3 l⟩
theorem rd_two {w:World}{g:Nat}{x y:Nat}{T:TypeId}{z:Nat×Nat}(h:w.heap[g]?=some (.cells #[L64 x,L64 y] T z)):RdN w (.slice (some ⟨g,0,none⟩) 2 2) [x,y]:=by
 refine⟨some ⟨g,0,none⟩,2,rfl,Nat.le_refl _,by decide,fun h=>(by cases h),fun j u hj=>⟨g,0,rfl,trivial,?_⟩⟩
 rw[World.cell?,h]
 rcases j with _|_|j
 ·simpa using hj
 ·simpa using hj
 ·simp at hj
theorem rdN_dr {w:World}{v:Value}{l:List Nat}(h:RdN w v l):RdN w.drew v l:=h.below (below_drewN (Below.refl _ _) 1)
theorem andnot_63 (x:Nat) (hx:x<18446744073709551616):bits .andNot .u64 (x:Int) 9223372036854775808=((x%9223372036854775808:Nat):Int):=by
 have h1:bits .andNot .u64 (x:Int) 9223372036854775808=bits .and .u64 (x:Int) 9223372036854775807:=by
  have e: ~~~(BitVec.ofInt IntKind.u64.bits 9223372036854775808)=BitVec.ofInt IntKind.u64.bits 9223372036854775807:=by decide
  unfold bits
  dsimp only
  rw[e]
 have:=bits_mask .u64 64 (by decide) (fun n h0 h1=>by rw[IntKind.wrap_u64];omega) 63 (by decide) x (by omega) (by omega)
 have e:((2:Int)^63-1)=9223372036854775807:=by decide
 rw[e]at this
 rw[h1,this];omega
theorem order31_n {w:World}{b:Nat}(hb:b<18446744073709551616):Calls Tryz.prog 13 #[L64 b] w (fun e w'=>e= .returned (.int .i64 (ordN b))∧w'=w):=by
 obtain⟨r,hr⟩:∃r,ordN b=r:=⟨_,rfl⟩
 rw[hr]
 unfold ordN at hr
 by_cases c:9223372036854775808≤b
 ·have d1:decide ((9223372036854775808:Int)≤(b:Int))=true:=decide_eq_true (by omega)
  have d2:decide (9223372036854775808≤b)=true:=decide_eq_true c
  have h1:=andnot_63 b hb
  obtain⟨m,hm⟩:∃m,b%9223372036854775808=m:=⟨_,rfl⟩
  rw[hm]at h1
  have w1:IntKind.i64.wrap (m:Int)=(m:Int):=by rw[IntKind.wrap_i64];omega
  have w2:IntKind.i64.wrap (-(m:Int))= -(m:Int):=by rw[IntKind.wrap_i64];omega
  rw[if_pos c]at hr
  obtain rfl: -(m:Int)=r:=by omega
  clear hr hm c hb
  go_enter Tryz.func13,Tryz.ntmps13
  go_wp2
  go_ret
  exact⟨rfl,rfl⟩
 ·have d1:decide ((9223372036854775808:Int)≤(b:Int))=false:=decide_eq_false (by omega)
  have d2:decide (9223372036854775808≤b)=false:=decide_eq_false c
  have w1:IntKind.i64.wrap (b:Int)=(b:Int):=by rw[IntKind.wrap_i64];omega
  rw[if_neg c]at hr
  obtain rfl:(b:Int)=r:=hr
  clear c hb
  go_enter Tryz.func13,Tryz.ntmps13
  go_wp2
  go_ret
  exact⟨rfl,rfl⟩
theorem worst2_n {w:World}{v:Value}{a c:Nat}(h:RdN w v [a,c]) (ha:a<18446744073709551616) (hc:c<18446744073709551616) (ka:kindN a≤3) (kc:kindN c≤3):Calls Tryz.prog 19 #[v] w (fun e w'=>e= .returned (.int .i64 0)∧w'=w):=by
 obtain⟨av,kv,rfl,h2,h3,h4,hcell⟩:=h.view
 simp only[List.length_cons,List.length_nil]at hcell h2 h3
 have HKa:=Lib.hid (fun w=>rkind_n (w:=w) ha)
 have HKc:=Lib.hid (fun w=>rkind_n (w:=w) hc)
 obtain⟨x,hx⟩:∃x,kindN a=x:=⟨_,rfl⟩
 obtain⟨y,hy⟩:∃y,kindN c=y:=⟨_,rfl⟩
 rw[hx]at HKa ka
 rw[hy]at HKc kc
 have dx:decide ((3:Int)<(x:Int))=false:=decide_eq_false (by omega)
 have dx':decide (3<x)=false:=decide_eq_false (by omega)
 have dy:decide ((3:Int)<(y:Int))=false:=decide_eq_false (by omega)
 have dy':decide (3<y)=false:=decide_eq_false (by omega)
 obtain⟨g,off,rfl,hg,c0⟩:=hcell 0 (by decide)
 obtain⟨g',off',e1,-,c1⟩:=hcell 1 (by decide)
 injection e1 with e1
 injection e1 with e1 e2 e3
 subst e1 e2
 clear hcell h h4 ha hc hx hy ka kc
 simp at c0 c1
 go_enter Tryz.func19,Tryz.ntmps19
 go_wp2
 go_loopw [3,4] (fun b i wr=>∃k:Nat,b= .int .i64 0∧i= .int .i64 (k:Int)∧k≤2∧wr=w) (fun _ i _=>2-(intOf i).toNat)
 case atStart=>exact⟨0,rfl,rfl,by decide,rfl⟩
 case round=>
  obtain⟨k,rfl,rfl,hk,rfl⟩:=hrel
  have hcase:k=0∨k=1∨k=2:=by omega
  rcases hcase with rfl|rfl|rfl
  ·go_wp2_with (first
    |(go_at_call 7;(with_reducible refine(HKa.out _).mono ?_);rintro e w1 ⟨rfl,rfl⟩)
    |fail)
   exact⟨⟨1,by simp,by simp,by decide,by simp⟩,by decide⟩
  ·go_wp2_with (first
    |(go_at_call 7;(with_reducible refine(HKc.out _).mono ?_);rintro e w1 ⟨rfl,rfl⟩)
    |fail)
   exact⟨⟨2,by simp,by simp,by decide,by simp⟩,by decide⟩
  ·go_wp2_with fail
   go_ret
   exact⟨rfl,rfl⟩
theorem lcall_n {w:World}{k x:Nat}{dir fr pt:Int}(hk:k<3) (hx:x<18446744073709551616) (hT:Tab w) (hf:farW pt=false):Calls Tryz.prog 15 #[.int .i64 (k:Int),L64 x,.agg #[.int .i64 dir,.int .i64 fr,.int .i64 pt,.pointer none]] w (fun r w'=>∃b f st tr er,r=retC b f st tr er∧CallR k x dir fr pt b f st tr er∧Below w.heap.size w w'):=by
 have h:k=0∨k=1∨k=2:=by omega
 rcases h with rfl|rfl|rfl
 ·exact lcall0_n hx hT hf
 ·exact lcall1_n hx hT hf
 ·exact lcall2_n hx hT hf
theorem rspec_n {w:World}{k x:Nat}(hk:k<3) (hx:x<18446744073709551616):Calls Tryz.prog 18 #[.int .i64 (k:Int),L64 x] w (fun e w'=>e= .returned (.tuple #[.agg #[L64 (spec31 k x).1,.int .i64 (spec31 k x).2.1],.bool (spec31 k x).2.2])∧Below w.heap.size w w'):=by
 have h:k=0∨k=1∨k=2:=by omega
 rcases h with rfl|rfl|rfl
 ·exact rspec0_n hx
 ·exact rspec1_n hx
 ·exact rspec2_n hx
theorem rightW_512 {dir:Int}(d0:0≤dir) (d3:dir≤3):rightW dir 64 512=true:=by
 unfold rightW
 rw[decide_eq_true d0,decide_eq_true d3];rfl
theorem callR_er {k x b:Nat}{dir fr pt f st tr er:Int}(hr:rightW dir fr pt=true) (h:CallR k x dir fr pt b f st tr er):er=0:=by
 rcases h with⟨h,-⟩|⟨-,h,-⟩
 ·rw[hr]at h;cases h
 ·exact h
theorem spec_bits {k x:Nat}(hx:x<18446744073709551616):(spec31 k x).1<18446744073709551616:=by
 unfold spec31
 repeat' split
 all_goals first|exact hx|decide
theorem rg_bits {P:Rat→Rat→Prop}{n:Bool}{dir f:Int}{b:Nat}(h:RgP P n dir b f):b<18446744073709551616:=by
 obtain⟨M,E,-,-,o,-,-⟩:=h
 have h1:=szB_le (n:=n) (E:=E) (dir:=dir) o.ne
 rw[o.sz]
 unfold signedB
 split<;>omega
theorem call_bits {k x b:Nat}{dir f tr:Int}(hk:k<3) (hx:x<18446744073709551616) (kx:kindN x≤3) (d0:0≤dir) (d3:dir≤3) (h:CallR k x dir 64 512 b f 0 tr 0):b<18446744073709551616:=by
 rcases h with⟨-,-,-,-,-,he⟩|⟨-,-,⟨-,hb,-⟩|⟨hs,hr⟩⟩
 ·exact absurd he (by decide)
 ·rw[hb];exact spec_bits hx
 ·have hk0:k=0∨k=1∨k=2:=by omega
  rcases hk0 with rfl|rfl|rfl
  ·have hz:kindN x≠0:=fun k0=>by unfold spec31 at hs;rw[if_neg (by omega),if_pos rfl,if_pos k0]at hs;cases hs
   have k3:kindN x≠3:=fun k3=>by
    unfold spec31 at hs;rw[if_neg (by omega),if_pos rfl,if_neg hz,if_pos k3]at hs
    split at hs<;>cases hs
   exact rg_bits (exp_rg hr d0 d3 (fun h=>hz ((kind_zero (kind_fin.1 (by omega))).2 h)))
  ·exact rg_bits (ln_rg hr)
  ·have k3:kindN x≠3:=fun k3=>by
    unfold spec31 at hs;rw[if_neg (by omega),if_neg (by decide),if_neg (by decide),if_pos k3]at hs
    split at hs<;>cases hs
   have hz:kindN x≠0:=fun k0=>by unfold spec31 at hs;rw[if_neg (by omega),if_neg (by decide),if_neg (by decide),if_neg k3,if_pos k0]at hs;cases hs
   exact rg_bits (ex1_rg hr d0 d3 (kind_fin.1 (by omega)) (fun h=>hz ((kind_zero (kind_fin.1 (by omega))).2 h)))
theorem size_kind {b:Nat}(h:sizeN b≤9218868437227405312):kindN b≤3:=by
 unfold sizeN at h
 unfold kindN fldN frcN
 split
 ·split<;>omega
 ·split
  ·omega
  ·rw[if_pos (by omega)]
   omega
end Go.Proofs.YtffaefjkpipjnaaGreatDoor
