/- Sizes, breakpoints, and what comparisons tell of a power, plainly. Conditions: none. -/
import Derived.Test.YtffaefjkpipjnaaGreatDoorPkB01
import Derived.Test.YtffaefjkpipjnaaGreatDoorPkB16
namespace Go.Proofs.YtffaefjkpipjnaaGreatDoor
set_option maxRecDepth 100000
set_option linter.unusedVariables false
def sigF (s:Nat):Nat:=if s/4503599627370496=0 then s else s%4503599627370496+4503599627370496
def unitE (s:Nat):Int:=if s/4503599627370496=0 then-1074 else((s/4503599627370496:Nat):Int)-1075
def szv (s:Nat):Rat:=(sigF s:Rat)*pw (unitE s)
def mdv (s:Nat):Rat:=((2*sigF s+1:Nat):Rat)*pw (unitE s-1)
theorem sz_next (s:Nat):(sigF (s+1)=sigF s+1∧unitE (s+1)=unitE s)∨(sigF s+1=9007199254740992∧sigF (s+1)=4503599627370496∧unitE (s+1)=unitE s+1):=by
 unfold sigF unitE
 by_cases h1:s/4503599627370496=0
 ·by_cases h2:(s+1)/4503599627370496=0
  ·rw[if_pos h1,if_pos h1,if_pos h2,if_pos h2];exact .inl ⟨rfl,rfl⟩
  ·rw[if_pos h1,if_pos h1,if_neg h2,if_neg h2];left;omega
 ·have h2:¬(s+1)/4503599627370496=0:=by omega
  rw[if_neg h1,if_neg h1,if_neg h2,if_neg h2]
  omega
theorem pw_succ (e:Int):pw (e+1)=2*pw e:=by
 rw[pw_add,pw_one];grind
theorem szv_succ (s:Nat):szv (s+1)=((sigF s+1:Nat):Rat)*pw (unitE s):=by
 unfold szv
 rcases sz_next s with⟨h1,h2⟩|⟨h1,h2,h3⟩
 ·rw[h1,h2]
 ·rw[h1,h2,h3,pw_succ]
  have:((9007199254740992:Nat):Rat)=((4503599627370496:Nat):Rat)*2:=by
   rw[show(9007199254740992:Nat)=4503599627370496*2 from rfl,Rat.natCast_mul];rfl
  rw[this]
  grind
theorem szv_mid (s:Nat):szv s<mdv s∧mdv s<szv (s+1):=by
 have hp:=pw_pos (unitE s-1)
 have hu:pw (unitE s)=2*pw (unitE s-1):=by rw[←pw_succ];congr 1;omega
 rw[szv_succ]
 unfold szv mdv
 rw[hu,Rat.natCast_add,Rat.natCast_add,Rat.natCast_mul]
 have h2:((2:Nat):Rat)=2:=rfl
 have h1:((1:Nat):Rat)=1:=rfl
 rw[h1,h2]
 generalize pw (unitE s-1)=p at*
 generalize ((sigF s:Nat):Rat)=f
 constructor
 ·have:(2*f+1)*p=f*(2*p)+p:=by grind
  rw[this];grind
 ·have:(f+1)*(2*p)=(2*f+1)*p+p:=by grind
  rw[this];grind
theorem szv_lt (s:Nat):szv s<szv (s+1):=by
 have:=szv_mid s
 grind
theorem szv_mono {s t:Nat}(h:s≤t):szv s≤szv t:=by
 obtain⟨d,rfl⟩:∃d,t=s+d:=⟨t-s,by omega⟩
 induction d with
 |zero=>exact Rat.le_refl
 |succ d ih=>exact Rat.le_trans (ih (by omega)) (Rat.le_of_lt (szv_lt (s+d)))
theorem szv_mono_lt {s t:Nat}(h:s<t):szv s<szv t:=by
 have h1:=szv_lt s
 have h2:=szv_mono (show s+1≤t by omega)
 grind
end Go.Proofs.YtffaefjkpipjnaaGreatDoor
namespace Go.Proofs.YtffaefjkpipjnaaGreatDoor
set_option maxRecDepth 100000
set_option linter.unusedVariables false
def pa (X:Rat) (m:Int):Rat:=if 0≤m then X^m.natAbs else 1
end Go.Proofs.YtffaefjkpipjnaaGreatDoor
namespace Go.Proofs.YtffaefjkpipjnaaGreatDoor
set_option maxRecDepth 100000
set_option linter.unusedVariables false
end Go.Proofs.YtffaefjkpipjnaaGreatDoor
namespace Go.Proofs.YtffaefjkpipjnaaGreatDoor
set_option maxRecDepth 100000
set_option linter.unusedVariables false
end Go.Proofs.YtffaefjkpipjnaaGreatDoor
