/- Numbers as lists of digits to a base, the lowest first: what they are worth, without leading noughts, and back. Conditions: the base is 2 at least. -/
import Derived.WalkKit
import Derived.Deep.Draws
import Derived.Lib.Hide
import Derived.ArgAppend
import Derived.Lib.BitFns
namespace Go.Proofs.YtffaefjkpipjnaaGreatDoor
set_option maxRecDepth 100000
def val (B:Nat):List Nat→Nat
 |[]=>0
 |x::l=>x+B*val B l
def strip:List Nat→List Nat
 |[]=>[]
 |x::l=>if strip l=[]∧x=0 then[]else x::strip l
def digsF (B:Nat):Nat→Nat→List Nat
 |0,_=>[]
 |f+1,n=>if n=0 then[]else(n%B)::digsF B f (n/B)
def digs (B n:Nat):List Nat:=digsF B n n
def Dig (B:Nat) (l:List Nat):Prop:=∀x∈l,x<B
theorem Dig.nil (B:Nat):Dig B []:=by simp[Dig]
theorem Dig.cons {B x:Nat}{l:List Nat}(hx:x<B) (h:Dig B l):Dig B (x::l):=by
 intro y hy
 rcases List.mem_cons.1 hy with rfl|hy
 ·exact hx
 ·exact h y hy
theorem Dig.head {B x:Nat}{l:List Nat}(h:Dig B (x::l)):x<B:=h x (by simp)
theorem Dig.tail {B x:Nat}{l:List Nat}(h:Dig B (x::l)):Dig B l:=fun y hy=>h y (by simp[hy])
theorem Dig.append {B:Nat}{l m:List Nat}(h:Dig B l) (k:Dig B m):Dig B (l++m):=by
 intro y hy
 rcases List.mem_append.1 hy with hy|hy
 ·exact h y hy
 ·exact k y hy
theorem Dig.take {B:Nat}{l:List Nat}(h:Dig B l) (k:Nat):Dig B (l.take k):=fun y hy=>h y (List.mem_of_mem_take hy)
theorem Dig.drop {B:Nat}{l:List Nat}(h:Dig B l) (k:Nat):Dig B (l.drop k):=fun y hy=>h y (List.mem_of_mem_drop hy)
theorem Dig.getD {B:Nat}{l:List Nat}(h:Dig B l) (hB:0<B) (k:Nat):l.getD k 0<B:=by
 rw[List.getD_eq_getElem?_getD]
 by_cases hk:k<l.length
 ·simp only[List.getElem?_eq_getElem hk,Option.getD_some];exact h _ (List.getElem_mem hk)
 ·simp[List.getElem?_eq_none (Nat.le_of_not_lt hk),hB]
theorem Dig.replicate {B:Nat}(hB:0<B) (n:Nat):Dig B (List.replicate n 0):=by
 intro y hy
 rw[(List.mem_replicate.1 hy).2];exact hB
theorem Dig.set {B:Nat}{l:List Nat}(h:Dig B l) (k:Nat) {x:Nat}(hx:x<B):Dig B (l.set k x):=by
 intro y hy
 rcases List.mem_or_eq_of_mem_set hy with hy|rfl
 ·exact h y hy
 ·exact hx
@[simp] theorem val_nil (B : Nat) : val B [] = 0 := rfl
@[simp] theorem val_cons (B x : Nat) (l : List Nat) : val B (x :: l) = x + B * val B l := rfl
theorem val_one (B x:Nat):val B [x]=x:=by simp
theorem val_append (B:Nat) (l m:List Nat):val B (l++m)=val B l+B^l.length*val B m:=by
 induction l with
 |nil=>simp
 |cons x l ih=>simp only[List.cons_append,val_cons,ih,List.length_cons,Nat.pow_succ,Nat.mul_add,Nat.add_assoc];rw[←Nat.mul_assoc,Nat.mul_comm B (B^l.length)]
theorem val_lt {B:Nat}{l:List Nat}(h:Dig B l):val B l<B^l.length:=by
 induction l with
 |nil=>simp
 |cons x l ih=>
  have hx:=h.head
  have:=ih h.tail
  simp only[val_cons,List.length_cons,Nat.pow_succ]
  have h1:B*(val B l+1)≤B*B^l.length:=Nat.mul_le_mul_left _ this
  rw[Nat.mul_add,Nat.mul_one,Nat.mul_comm B (B^l.length)]at h1
  omega
theorem val_replicate (B n:Nat):val B (List.replicate n 0)=0:=by
 induction n with
 |zero=>rfl
 |succ n ih=>simp[List.replicate_succ,ih]
theorem val_take_drop (B:Nat) (l:List Nat) (k:Nat) (hk:k≤l.length):val B l=val B (l.take k)+B^k*val B (l.drop k):=by
 have:=val_append B (l.take k) (l.drop k)
 rw[List.take_append_drop,List.length_take,Nat.min_eq_left hk]at this
 exact this
theorem val_take_succ (B:Nat) (l:List Nat) (k:Nat):val B (l.take (k+1))=val B (l.take k)+B^k*l.getD k 0:=by
 induction l generalizing k with
 |nil=>simp
 |cons x l ih=>
  cases k with
  |zero=>simp
  |succ k=>
   simp only[List.take_succ_cons,val_cons,ih k,List.getD_cons_succ,Nat.pow_succ,Nat.mul_add,Nat.add_assoc]
   rw[←Nat.mul_assoc,Nat.mul_comm B (B^k)]
theorem val_take_ge (B:Nat) (l:List Nat) (k:Nat) (hk:l.length≤k):val B (l.take k)=val B l:=by rw[List.take_of_length_le hk]
theorem val_set_take (B:Nat) (l:List Nat) (k x:Nat) (hk:k<l.length):val B ((l.set k x).take (k+1))=val B (l.take k)+B^k*x:=by
 rw[val_take_succ,List.take_set_of_le (Nat.le_refl k)]
 simp[hk]
theorem strip_nil_iff (B:Nat) (l:List Nat) (hB:0<B):strip l=[]↔val B l=0:=by
 induction l with
 |nil=>simp[strip]
 |cons x l ih=>
  simp only[strip,val_cons]
  by_cases h:strip l=[]∧x=0
  ·rw[if_pos h];have:=ih.1 h.1;simp[this,h.2]
  ·rw[if_neg h]
   constructor
   ·intro h';cases h'
   ·intro h'
    exfalso;apply h
    have h1:B*val B l=0:=by omega
    have h2:val B l=0:=by
     rcases Nat.mul_eq_zero.1 h1 with h|h
     ·omega
     ·exact h
    exact⟨ih.2 h2,by omega⟩
theorem digsF_more (B:Nat) (hB:2≤B):∀(f n:Nat),n≤f→digsF B f n=digsF B n n:=by
 intro f
 induction f using Nat.strongRecOn with
 |ind f ih=>
  intro n hn
  by_cases h0:n=0
  ·subst h0;cases f<;>simp[digsF]
  ·obtain⟨f',rfl⟩:∃f',f=f'+1:=⟨f-1,by omega⟩
   obtain⟨n',rfl⟩:∃n',n=n'+1:=⟨n-1,by omega⟩
   have hd:(n'+1)/B≤n':=by
    have:(n'+1)/B<n'+1:=Nat.div_lt_self (by omega) (by omega)
    omega
   simp only[digsF,if_neg h0]
   rw[ih f' (by omega) _ (by omega)]
   by_cases he:n'=f'
   ·subst he;rw[ih n' (by omega) _ hd]
   ·rw[ih n' (by omega) _ hd]
theorem digs_zero (B:Nat):digs B 0=[]:=rfl
theorem digs_pos {B:Nat}(hB:2≤B) {n:Nat}(hn:0<n):digs B n=(n%B)::digs B (n/B):=by
 obtain⟨n',rfl⟩:∃n',n=n'+1:=⟨n-1,by omega⟩
 have hd:(n'+1)/B≤n':=by
  have:(n'+1)/B<n'+1:=Nat.div_lt_self (by omega) (by omega)
  omega
 unfold digs
 simp only[digsF,if_neg (by omega:¬n'+1=0)]
 rw[digsF_more B hB n' _ hd]
theorem digs_cons {B:Nat}(hB:2≤B) {x m:Nat}(hx:x<B) (h:x+B*m≠0):digs B (x+B*m)=x::digs B m:=by
 rw[digs_pos hB (by omega)]
 have h1:(x+B*m)%B=x:=by rw[Nat.add_mul_mod_self_left];exact Nat.mod_eq_of_lt hx
 have h2:(x+B*m)/B=m:=by rw[Nat.add_mul_div_left _ _ (by omega),Nat.div_eq_of_lt hx];omega
 rw[h1,h2]
theorem strip_eq {B:Nat}(hB:2≤B) {l:List Nat}(h:Dig B l):strip l=digs B (val B l):=by
 induction l with
 |nil=>rfl
 |cons x l ih=>
  have hn:=strip_nil_iff B l (by omega)
  simp only[strip,val_cons]
  by_cases hc:strip l=[]∧x=0
  ·rw[if_pos hc,hn.1 hc.1,hc.2];rfl
  ·rw[if_neg hc,ih h.tail,digs_cons hB h.head]
   intro h0
   apply hc
   have h1:B*val B l=0:=by omega
   have h2:val B l=0:=by
    rcases Nat.mul_eq_zero.1 h1 with h|h
    ·omega
    ·exact h
   exact⟨hn.2 h2,by omega⟩
theorem digs_ind {B:Nat}(hB:2≤B) {p:Nat→Prop}(h0:p 0) (hs:∀n,0<n→p (n/B)→p n):∀n,p n:=by
 intro n
 induction n using Nat.strongRecOn with
 |ind n ih=>
  by_cases h:n=0
  ·rw[h];exact h0
  ·exact hs n (by omega) (ih _ (Nat.div_lt_self (by omega) (by omega)))
theorem val_digs {B:Nat}(hB:2≤B) (n:Nat):val B (digs B n)=n:=by
 refine digs_ind hB (p:=fun n=>val B (digs B n)=n) rfl (fun n hn ih=>?_) n
 rw[digs_pos hB hn,val_cons,ih]
 have:=Nat.mod_add_div n B
 omega
theorem dig_digs {B:Nat}(hB:2≤B) (n:Nat):Dig B (digs B n):=by
 refine digs_ind hB (p:=fun n=>Dig B (digs B n)) (Dig.nil B) (fun n hn ih=>?_) n
 rw[digs_pos hB hn]
 exact Dig.cons (Nat.mod_lt _ (by omega)) ih
theorem strip_digs {B:Nat}(hB:2≤B) (n:Nat):strip (digs B n)=digs B n:=by
 rw[strip_eq hB (dig_digs hB n),val_digs hB]
theorem digs_nil_iff {B:Nat}(hB:2≤B) (n:Nat):digs B n=[]↔n=0:=by
 constructor
 ·intro h;rw[←val_digs hB n,h];rfl
 ·rintro rfl;rfl
theorem digs_length_le {B:Nat}(hB:2≤B) (n k:Nat):(digs B n).length≤k↔n<B^k:=by
 induction k generalizing n with
 |zero=>
  simp only[Nat.le_zero,List.length_eq_zero_iff,digs_nil_iff hB,Nat.pow_zero];omega
 |succ k ih=>
  by_cases h0:n=0
  ·subst h0;simp[digs_zero];exact Nat.pow_pos (by omega)
  ·rw[digs_pos hB (by omega),List.length_cons,Nat.add_le_add_iff_right,ih,Nat.div_lt_iff_lt_mul (by omega),Nat.pow_succ]
theorem strip_length_le (l:List Nat):(strip l).length≤l.length:=by
 induction l with
 |nil=>simp[strip]
 |cons x l ih=>
  simp only[strip]
  split
  ·simp
  ·simp only[List.length_cons];omega
theorem strip_take (l:List Nat) (k:Nat) (h:∀j,k≤j→l.getD j 0=0):strip (l.take k)=strip l:=by
 induction l generalizing k with
 |nil=>simp
 |cons x l ih=>
  cases k with
  |zero=>
   have hx:x=0:=by simpa using h 0 (Nat.le_refl _)
   have:strip l=[]:=by
    have:=ih 0 (fun j _=>by simpa using h (j+1) (by omega))
    simpa[strip]using this.symm
   simp[strip,this,hx]
  |succ k=>
   have:=ih k (fun j hj=>by simpa using h (j+1) (by omega))
   simp only[List.take_succ_cons,strip,this]
theorem strip_self (l:List Nat) (h:l=[]∨l.getD (l.length-1) 0≠0):strip l=l:=by
 induction l with
 |nil=>rfl
 |cons x l ih=>
  rcases h with h|h
  ·cases h
  ·cases l with
   |nil=>simp[strip]at h⊢;exact h
   |cons y l=>
    have:=ih (.inr (by simpa using h))
    rw[strip,this]
    simp
end Go.Proofs.YtffaefjkpipjnaaGreatDoor
namespace Go.Proofs.YtffaefjkpipjnaaGreatDoor
set_option maxRecDepth 100000
open Go.RowKit
structure Fr (S:Nat→Prop) (w w':World):Prop where
 os:w'.os=w.os
 tape:w'.tape=w.tape
 output:w'.output=w.output
 size:w.heap.size≤w'.heap.size
 block:∀k,k<w.heap.size→¬S k→w'.heap[k]?=w.heap[k]?
section
variable {S:Nat→Prop}{w w' w'':World}
theorem Fr.refl (S:Nat→Prop) (w:World):Fr S w w:=⟨rfl,rfl,rfl,Nat.le_refl _,fun _ _ _=>rfl⟩
theorem Fr.trans (h:Fr S w w') (k:Fr S w' w''):Fr S w w'':=
 ⟨k.os.trans h.os,k.tape.trans h.tape,k.output.trans h.output,Nat.le_trans h.size k.size,fun i hi hs=>(k.block i (Nat.lt_of_lt_of_le hi h.size) hs).trans (h.block i hi hs)⟩
theorem Fr.mono {S':Nat→Prop}(h:Fr S w w') (hs:∀k,S k→S' k):Fr S' w w':=
 ⟨h.os,h.tape,h.output,h.size,fun k hk hn=>h.block k hk (fun hS=>hn (hs k hS))⟩
theorem Fr.drew (h:Fr S w w'):Fr S w w'.drew:=⟨h.os,h.tape,h.output,h.size,h.block⟩
theorem Fr.alloc (h:Fr S w w') (o:Obj):Fr S w (w'.alloc o):=
 h.trans ⟨rfl,rfl,rfl,by simp,fun k hk _=>Below.heap_alloc _ _ _ hk⟩
theorem Fr.setCell (h:Fr S w w') {p:Addr}(hp:S p.block) (u:Value):Fr S w (w'.setCell p u):=
 h.trans ⟨rfl,rfl,rfl,by simp[World.setCell],fun k _ hn=>Below.heap_setCell _ _ _ _ (fun e=>hn (e▸hp))⟩
theorem Fr.of_below (h:Below w.heap.size w w'):Fr S w w':=⟨h.os,h.tape,h.output,h.size,fun k hk _=>h.block k hk⟩
theorem Fr.below {B:Nat}(h:Fr S w w') (hB:B≤w.heap.size) (hs:∀k,k<B→¬S k):Below B w w':=
 ⟨h.os,h.tape,h.output,h.size,fun k hk=>h.block k (by omega) (hs k hk)⟩
theorem Fr.at (h:Fr S w w') {k:Nat}{o:Obj}(hk:w.heap[k]?=some o) (hs:¬S k):w'.heap[k]?=some o:=by
 have hlt:k<w.heap.size:=by
  rcases Nat.lt_or_ge k w.heap.size with h|h
  ·exact h
  ·simp[Array.getElem?_eq_none h]at hk
 rw[h.block k hlt hs,hk]
theorem Fr.at_cell (h:Fr S w w') {p:Addr}{v:Value}(hc:w.cell? p=some v) (hs:¬S p.block):w'.cell? p=some v:=
 (World.cell?_of_block (h.block p.block (World.block_lt_of_cell? w p hc) hs)).trans hc
theorem below_drewN {B:Nat}{a w:World}(h:Below B a w) (n:Nat):Below B a (w.drewN n):=⟨h.os,h.tape,h.output,h.size,h.block⟩
end
theorem Fr.grown {S:Nat→Prop}{w w' w'':World}{row:Option Nat}(h:Fr S w w') (hg:w'.grownBy w'' row) (hr:∀k,row=some k→w.heap.size≤k):Fr S w w'':=
 ⟨hg.os.trans h.os,hg.tape.trans h.tape,hg.output.trans h.output,Nat.le_trans h.size hg.size,fun k hk hn=>(hg.block k (Nat.lt_of_lt_of_le hk h.size) (fun e=>by have:=hr k e.symm;omega)).trans (h.block k hk hn)⟩
def Rd (N:Nat→Prop) (w:World) (v:Value) (xs:List Value):Prop:=
 ∃a c,v= .slice a xs.length c∧xs.length≤c∧c≤maxLen∧(a=none→c=0)∧∀j u,xs[j]?=some u→∃g off,a=some ⟨g,off,none⟩∧N g∧w.cell? ⟨g,off+j,none⟩=some u
section
variable {N:Nat→Prop}{w w':World}{v x:Value}{xs ys:List Value}
theorem Rd.nil (N:Nat→Prop) (w:World):Rd N w (.slice none 0 0) []:=⟨none,0,rfl,Nat.le_refl _,by decide,fun _=>rfl,fun j u h=>by simp at h⟩
theorem Rd.keep {S:Nat→Prop}(h:Rd N w v xs) (hf:Fr S w w') (hs:∀g,N g→¬S g):Rd N w' v xs:=by
 obtain⟨a,c,h1,h2,h3,h4,h5⟩:=h
 refine⟨a,c,h1,h2,h3,h4,fun j u hj=>?_⟩
 obtain⟨g,off,e1,e2,e3⟩:=h5 j u hj
 exact⟨g,off,e1,e2,hf.at_cell e3 (hs g e2)⟩
theorem Rd.below (h:Rd N w v xs) (hb:Below w.heap.size w w'):Rd N w' v xs:=h.keep (S:=fun _=>False) (Fr.of_below hb) (fun _ _ h=>h)
theorem Rd.mono {N':Nat→Prop}(h:Rd N w v xs) (hn:∀g,g<w.heap.size→N g→N' g):Rd N' w v xs:=by
 obtain⟨a,c,h1,h2,h3,h4,h5⟩:=h
 refine⟨a,c,h1,h2,h3,h4,fun j u hj=>?_⟩
 obtain⟨g,off,e1,e2,e3⟩:=h5 j u hj
 exact⟨g,off,e1,hn g (World.block_lt_of_cell? w _ e3) e2,e3⟩
theorem Rd.of_own {base:Nat}{e:TypeId}{n:Nat}(h:w.ownsRow base e 1 v n xs) (hN:∀g,base≤g→N g):Rd N w v xs:=by
 have hl:xs.length=n:=by simpa using h.1
 rcases h.2 with⟨rfl,rfl⟩|⟨g,cap,cur,rfl,hb,hg,hn,hc,hs,ht⟩
 ·obtain rfl:xs=[]:=List.eq_nil_of_length_eq_zero hl
  exact Rd.nil N w
 ·refine⟨some ⟨g,0,none⟩,cap,by rw[hl],by omega,hc,(fun h=>by cases h),fun j u hj=>⟨g,0,rfl,hN g hb,?_⟩⟩
  have hjl:j<xs.length:=(List.getElem?_eq_some_iff.1 hj).1
  rw[Nat.zero_add,h.cellAt j (by omega),hj]
theorem Rd.view (h:Rd N w v xs):∃a c,v= .slice a xs.length c∧xs.length≤c∧c≤maxLen∧(a=none→c=0)∧∀j,j<xs.length→∃g off,a=some ⟨g,off,none⟩∧N g∧g<w.heap.size∧w.cell? ⟨g,off+j,none⟩=some (xs[j]?.getD undef):=by
 obtain⟨a,c,h1,h2,h3,h4,h5⟩:=h
 refine⟨a,c,h1,h2,h3,h4,fun j hj=>?_⟩
 obtain⟨g,off,e1,e2,e3⟩:=h5 j _ (List.getElem?_eq_getElem hj)
 exact⟨g,off,e1,e2,World.block_lt_of_cell? w _ e3,by rw[e3,List.getElem?_eq_getElem hj];rfl⟩
theorem run_append_rd {P:Program}(base:Nat) (t ty e:TypeId) (i:TypeInfo) (z:Value) (bytes:Nat) (ht:P.underlying t=some (.slice e)) (hi:P.info? e=some i) (hz:i.zero=some z)
 (hsize:i.size=1) (hby:i.bytes=bytes) (hzs:z.cells.size=1) {n:Nat}(hown:w.ownsRow base e 1 v n xs) (hr:Rd N w x ys) (h1:∀u∈ys,u.oneCell'=true)
 (h63:n+ys.length≤maxLen) (hbytes:(n+ys.length)*bytes≤140737488355328) (hbase:base≤w.heap.size):
 ∃v' w',(Builtin.append_ #[t,t] ty #[v,x]).run P w= .ok v' w'∧w'.ownsRow base e 1 v' (n+ys.length) (xs++ys)∧w.grownBy w' v.ownBlock:=by
 obtain⟨a,c,rfl,h2,h3,h4,h5⟩:=hr
 cases a with
 |none=>
  have hc:=h4 rfl
  subst hc
  have hy:ys=[]:=List.eq_nil_of_length_eq_zero (by omega)
  subst hy
  exact⟨v,w,run_append_owned_none (P:=P) w base t ty e i 1 ht hi v n xs hown,by simpa using hown,World.grownBy.refl _ _⟩
 |some ad=>
  obtain⟨v',w',hrun,r1,r2,_⟩:=run_append_own (P:=P) w base t ty e i z 1 bytes ht hi hz hsize hby hzs (by decide) v n xs hown ad ys.length c ys (by simp) (fun j u hj=>by
   obtain⟨g,off,e1,_,e3⟩:=h5 j u hj
   simp only[Option.some.injEq]at e1
   subst e1
   rw[Go.WideShapes.add_plain];exact e3) h1 h63 hbytes hbase
  exact⟨v',w',hrun,r1,r2⟩
theorem wpList_append_rd {P:Program}{ops:Array Oper}{rest:List Oper}{o:Oper}{a:Act}{Q:Exit→Act→World→Prop}(hg:o.guard=none) (s y:Operand) (t:TypeId)
 (hop:o.op=Op.call {callee:=Callee.builtin Builtin.append,args:= #[s,y],argTypes:= #[t,t]}) (base:Nat) (e:TypeId) (i:TypeInfo) (z:Value) (bytes:Nat) (ht:P.underlying t=some (.slice e)) (hi:P.info? e=some i) (hz:i.zero=some z)
 (hsize:i.size=1) (hby:i.bytes=bytes) (hzs:z.cells.size=1) {n:Nat}(hs:a.eval s=v) (hx:a.eval y=x) (hown:w.ownsRow base e 1 v n xs) (hr:Rd N w x ys) (h1:∀u∈ys,u.oneCell'=true)
 (h63:n+ys.length≤maxLen) (hbytes:(n+ys.length)*bytes≤140737488355328) (hbase:base≤w.heap.size)
 (hK:∀v' w',w'.ownsRow base e 1 v' (n+ys.length) (xs++ys)→w.grownBy w' v.ownBlock→wpList P ops Q rest (a.put o.dst v') w'):wpList P ops Q (o::rest) a w:=by
 refine wpList_plain hg fun K hK'=>?_
 obtain⟨v',w',hrun,r1,r2⟩:=run_append_rd (P:=P) base t o.type e i z bytes ht hi hz hsize hby hzs hown hr h1 h63 hbytes hbase
 unfold Oper.wp
 simp[execOp,hop,resolve,invoke,builtin,hs,hx,hrun,Result.andThen]
 exact hK' _ _ (hK v' w' r1 r2)
end
theorem own_zero {W:World}{B base:Nat}{E:TypeId}(h:W.heap[B]?=some (.cells #[] E (0,0))) (hb:base≤B):W.ownsRow base E 1 (.slice (some ⟨B,0,none⟩) 0 0) 0 []:=
 ⟨rfl,.inr ⟨B,0,#[],rfl,hb,h,Nat.le_refl _,by decide,rfl,rfl⟩⟩
theorem rd_one {N:Nat→Prop}{W:World}{B:Nat}{E:TypeId}{u:Value}{fz:Nat×Nat}(h:W.heap[B]?=some (.cells #[u] E fz)) (hN:N B):Rd N W (.slice (some ⟨B,0,none⟩) 1 1) [u]:=
 ⟨some ⟨B,0,none⟩,1,rfl,Nat.le_refl _,by decide,(fun h=>by cases h),fun j u' hj=>⟨B,0,rfl,hN,by
   cases j with
   |zero=>simp at hj;subst hj;simp[World.cell?,h]
   |succ j=>simp at hj⟩⟩
theorem cell_at {w:World}{b j:Nat}{c:Array Value}{T:TypeId}{fz:Nat×Nat}(h:w.heap[b]?=some (.cells c T fz)) {v:Value}(hj:c[j]?=some v):w.cell? ⟨b,j,none⟩=some v:=by
 simp[World.cell?,h,hj]
theorem free_at {w:World}{b j:Nat}{c:Array Value}{T:TypeId}(h:w.heap[b]?=some (.cells c T (0,0))):w.frozen? ⟨b,j,none⟩=false:=by
 simp[World.frozen?,h]
theorem heap_setC {w:World}{b j:Nat}{c:Array Value}{T:TypeId}{fz:Nat×Nat}(h:w.heap[b]?=some (.cells c T fz)) (v:Value):
 (w.setCell ⟨b,j,none⟩ v).heap[b]?=some (.cells (c.setIfInBounds j v) T fz):=by
 simp[World.setCell,Array.getElem?_modify,h]
theorem heap_setO {w:World}{b j k:Nat}{o:Obj}(h:w.heap[k]?=some o) (v:Value) (hne:k≠b):(w.setCell ⟨b,j,none⟩ v).heap[k]?=some o:=by
 rw[Below.heap_setCell _ _ _ _ hne,h]
end Go.Proofs.YtffaefjkpipjnaaGreatDoor
namespace Go.Proofs.YtffaefjkpipjnaaGreatDoor
set_option maxRecDepth 100000
def bitN (n:Nat):Nat:=if n=0 then 0 else n.log2+1
theorem bitN_le {n k:Nat}:bitN n≤k↔n<2^k:=by
 unfold bitN
 by_cases h:n=0
 ·simp[h,Nat.pow_pos]
 ·rw[if_neg h,←Nat.log2_lt h];exact Nat.succ_le_iff
theorem lt_bitN {n k:Nat}:k<bitN n↔2^k≤n:=by
 rw[←Nat.not_le,bitN_le,Nat.not_lt]
theorem bitN_zero:bitN 0=0:=rfl
theorem bitN_one:bitN 1=1:=by decide
theorem bitN_lt (n:Nat):n<2^bitN n:=bitN_le.1 (Nat.le_refl _)
theorem bitN_pos {n:Nat}(h:n≠0):0<bitN n:=lt_bitN.2 (by simp;omega)
theorem bitN_ge {n:Nat}(h:n≠0):2^(bitN n-1)≤n:=lt_bitN.1 (by have:=bitN_pos h;omega)
theorem bitN_mono {a b:Nat}(h:a≤b):bitN a≤bitN b:=bitN_le.2 (Nat.lt_of_le_of_lt h (bitN_lt b))
theorem bitN_add {p lo t:Nat}(h:lo<2^p) (ht:t≠0):bitN (lo+2^p*t)=p+bitN t:=by
 have h1:=bitN_ge ht
 have h0:=bitN_pos ht
 apply Nat.le_antisymm
 ·rw[bitN_le,Nat.pow_add]
  have h2:t+1≤2^bitN t:=bitN_lt t
  have h3:=Nat.mul_le_mul_left (2^p) h2
  rw[Nat.mul_add]at h3;omega
 ·have:p+bitN t-1<bitN (lo+2^p*t):=by
   rw[lt_bitN,show p+bitN t-1=p+(bitN t-1)by omega,Nat.pow_add]
   have h3:=Nat.mul_le_mul_left (2^p) h1
   omega
  omega
theorem bitN_mul_le (a b:Nat):bitN (a*b)≤bitN a+bitN b:=by
 rw[bitN_le,Nat.pow_add]
 exact Nat.mul_lt_mul'' (bitN_lt a) (bitN_lt b)
theorem bitN_half {x:Nat}(h:x≠0):bitN x=1+bitN (x/2):=by
 by_cases h2:x/2=0
 ·rw[h2,show x=1 by omega];decide
 ·have:=bitN_add (p:=1) (lo:=x%2) (t:=x/2) (by simp;omega) h2
  rw[show x%2+2^1*(x/2)=x by simp;omega]at this
  exact this
theorem bitLen_bitN (x:Nat) (h:x<2^64):Lib.bitLen x=bitN x:=by
 induction x using Nat.strongRecOn with
 |ind x ih=>
  by_cases h0:x=0
  ·subst h0;rfl
  ·rw[Lib.bitLen_half x h0 h,bitN_half h0,ih (x/2) (by omega) (by omega)]
theorem strip_top:∀{l:List Nat},strip l≠[]→(strip l).getD ((strip l).length-1) 0≠0
 |[],h=>absurd rfl h
 |x::l,h=>by
  unfold strip at h⊢
  split at h
  ·exact absurd rfl h
  ·rename_i hc
   rw[if_neg hc]
   by_cases hs:strip l=[]
   ·rw[hs];simp;intro hx;exact hc ⟨hs,hx⟩
   ·have:=strip_top hs
    have hp:=List.length_pos_iff.2 hs
    rw[List.length_cons,show(strip l).length+1-1=(strip l).length-1+1 by omega]
    simpa using this
theorem val_strip (B:Nat):∀l:List Nat,val B (strip l)=val B l
 |[]=>rfl
 |x::l=>by
  have ih:=val_strip B l
  unfold strip
  split
  ·rename_i h;rw[h.1]at ih;simp[h.2,←ih]
  ·simp[ih]
theorem bits_list {p:Nat}{s:List Nat}(hd:Dig (2^p) s) (hs:s≠[]) (ht:s.getD (s.length-1) 0≠0):
 bitN (val (2^p) s)=p*(s.length-1)+bitN (s.getD (s.length-1) 0):=by
 have hp:=List.length_pos_iff.2 hs
 have e:=val_take_succ (2^p) s (s.length-1)
 rw[show s.length-1+1=s.length by omega,List.take_length]at e
 have h1:=val_lt (hd.take (s.length-1))
 rw[List.length_take,Nat.min_eq_left (by omega)]at h1
 rw[e]
 rw[←Nat.pow_mul]at h1⊢
 exact bitN_add h1 ht
theorem bits_val {p:Nat}(hp:0<p) {l:List Nat}(hd:Dig (2^p) l):
 (if strip l=[]then 0 else p*((strip l).length-1)+bitN ((strip l).getD ((strip l).length-1) 0))=bitN (val (2^p) l):=by
 have h2:2≤2^p:=by
  have:=Nat.pow_le_pow_right (n:=2) (by omega) hp
  simpa using this
 by_cases h:strip l=[]
 ·rw[if_pos h,(strip_nil_iff _ l (by omega)).1 h];rfl
 ·rw[if_neg h,←val_strip]
  exact(bits_list (by rw[strip_eq h2 hd];exact dig_digs h2 _) h (strip_top h)).symm
end Go.Proofs.YtffaefjkpipjnaaGreatDoor
namespace Go.Proofs.YtffaefjkpipjnaaGreatDoor
set_option maxRecDepth 100000
theorem one_place {b x n cy o:Nat}(hb:0<b) (hx:x<b) (hn:n<b) (hc:cy<b) (ho:o<b):
 x*n/b+(x*n%b+cy)/b<b∧x*n/b+(x*n%b+cy)/b+(o+(x*n%b+cy)%b)/b<b∧
 (o+(x*n%b+cy)%b)%b+b*(x*n/b+(x*n%b+cy)/b+(o+(x*n%b+cy)%b)/b)=x*n+cy+o:=by
 have e1:=Nat.mod_add_div (x*n) b
 have e2:=Nat.mod_add_div (x*n%b+cy) b
 have e3:=Nat.mod_add_div (o+(x*n%b+cy)%b) b
 have hm:x*n≤(b-1)*(b-1):=Nat.mul_le_mul (by omega) (by omega)
 have hmm:(b-1)*(b-1)+2*(b-1)+1=b*b:=by
  obtain⟨p,rfl⟩:∃p,b=p+1:=⟨b-1,by omega⟩
  simp only[Nat.add_sub_cancel]
  simp only[Nat.add_mul,Nat.mul_add,Nat.one_mul,Nat.mul_one];omega
 have e:(o+(x*n%b+cy)%b)%b+b*(x*n/b+(x*n%b+cy)/b+(o+(x*n%b+cy)%b)/b)=x*n+cy+o:=by
  rw[Nat.mul_add,Nat.mul_add];omega
 have hlt:b*(x*n/b+(x*n%b+cy)/b+(o+(x*n%b+cy)%b)/b)<b*b:=by omega
 have:=Nat.lt_of_mul_lt_mul_left hlt
 exact⟨Nat.lt_of_le_of_lt (Nat.le_add_right _ _) this,this,e⟩
structure RowSum (b off:Nat) (l X0:List Nat) (n k cy:Nat) (X:List Nat):Prop where
 carry:cy<b
 len:X.length=X0.length
 dig:Dig b X
 above:∀j,off+k≤j→X.getD j 0=X0.getD j 0
 sum:val b (X.take (off+k))+b^(off+k)*cy=val b (X0.take (off+k))+b^off*(val b (l.take k)*n)
theorem RowSum.start {b off n:Nat}{l X0:List Nat}(hb:0<b) (h:Dig b X0):RowSum b off l X0 n 0 0 X0:=
 ⟨hb,rfl,h,fun _ _=>rfl,by simp⟩
theorem RowSum.step {b off n k cy:Nat}{l X0 X:List Nat}(h:RowSum b off l X0 n k cy X) (hb:0<b) (hl:Dig b l) (hn:n<b) (hk:off+k<X.length):
 RowSum b off l X0 n (k+1) (l.getD k 0*n/b+(l.getD k 0*n%b+cy)/b+(X.getD (off+k) 0+(l.getD k 0*n%b+cy)%b)/b)
  (X.set (off+k) ((X.getD (off+k) 0+(l.getD k 0*n%b+cy)%b)%b)):=by
 obtain⟨p1,p2,p3⟩:=one_place hb (hl.getD hb k) hn h.carry (h.dig.getD hb (off+k))
 refine⟨p2,by rw[List.length_set];exact h.len,h.dig.set _ (Nat.mod_lt _ hb),fun j hj=>?_,?_⟩
 ·rw[List.getD_eq_getElem?_getD,List.getElem?_set_ne (by omega),←List.getD_eq_getElem?_getD]
  exact h.above j (by omega)
 ·rw[show off+(k+1)=off+k+1 by omega,val_set_take b X _ _ hk,val_take_succ,val_take_succ,Nat.pow_succ,Nat.mul_assoc,Nat.add_assoc,←Nat.mul_add,p3,←h.above (off+k) (Nat.le_refl _)]
  have hs:=h.sum
  rw[Nat.mul_add,Nat.mul_add,Nat.add_mul,Nat.mul_add (b^off)]
  have e:b^off*(b^k*l.getD k 0*n)=b^(off+k)*(l.getD k 0*n):=by rw[Nat.pow_add];simp only[Nat.mul_assoc]
  rw[e]
  omega
theorem RowSum.fin {b off n cy:Nat}{l X0 X:List Nat}(h:RowSum b off l X0 n l.length cy X) (hk:off+l.length<X.length):
 val b ((X.set (off+l.length) cy).take (off+l.length+1))=val b (X0.take (off+l.length))+b^off*(val b l*n):=by
 rw[val_set_take b X _ _ hk,h.sum,List.take_length]
end Go.Proofs.YtffaefjkpipjnaaGreatDoor
namespace Go.Proofs.YtffaefjkpipjnaaGreatDoor
set_option maxRecDepth 100000
def cmpN (a b:Nat):Int:=if a<b then-1 else if a=b then 0 else 1
theorem cmpN_lt {a b:Nat}(h:a<b):cmpN a b= -1:=by unfold cmpN;rw[if_pos h]
theorem cmpN_gt {a b:Nat}(h:b<a):cmpN a b=1:=by unfold cmpN;rw[if_neg (by omega),if_neg (by omega)]
theorem cmpN_eq (a:Nat):cmpN a a=0:=by unfold cmpN;rw[if_neg (by omega),if_pos rfl]
def came (n k:Nat):List Nat:=(List.range k).map fun j=>n-1-j
theorem came_succ (n k:Nat):came n (k+1)=came n k++[n-1-k]:=by simp[came,List.range_succ]
theorem came_len (n k:Nat):(came n k).length=k:=by simp[came]
theorem came_mem {n k j:Nat}(h:j<n) (hk:n≤j+k):j∈came n k:=by
 simp only[came,List.mem_map,List.mem_range]
 exact⟨n-1-j,by omega,by omega⟩
theorem lt_of_top {B:Nat}{s t:List Nat}{j:Nat}(hs:Dig B s) (hl:s.length=t.length) (hj:j<s.length) (hab:∀i,j<i→s.getD i 0=t.getD i 0) (h:s.getD j 0<t.getD j 0):val B s<val B t:=by
 have e:s.drop (j+1)=t.drop (j+1):=by
  apply List.ext_getElem?
  intro i
  rw[List.getElem?_drop,List.getElem?_drop]
  have:=hab (j+1+i) (by omega)
  rw[List.getD_eq_getElem?_getD,List.getD_eq_getElem?_getD]at this
  by_cases hi:j+1+i<s.length
  ·rw[List.getElem?_eq_getElem hi,List.getElem?_eq_getElem (by omega)]at this⊢
   simpa using this
  ·rw[List.getElem?_eq_none (by omega),List.getElem?_eq_none (by omega)]
 have e1:=val_take_drop B s (j+1) (by omega)
 have e2:=val_take_drop B t (j+1) (by omega)
 rw[val_take_succ]at e1 e2
 have h1:=val_lt (hs.take j)
 rw[List.length_take,Nat.min_eq_left (by omega)]at h1
 have h2:=Nat.mul_le_mul_left (B^j) (show s.getD j 0+1≤t.getD j 0 from h)
 rw[Nat.mul_add]at h2
 rw[e1,e2,e]
 omega
theorem cmp_top {B:Nat}{s t:List Nat}{j:Nat}(hs:Dig B s) (ht:Dig B t) (hl:s.length=t.length) (hj:j<s.length) (hab:∀i,j<i→s.getD i 0=t.getD i 0) (h:s.getD j 0≠t.getD j 0):cmpN (s.getD j 0) (t.getD j 0)=cmpN (val B s) (val B t):=by
 rcases Nat.lt_or_gt_of_ne h with h|h
 ·rw[cmpN_lt h,cmpN_lt (lt_of_top hs hl hj hab h)]
 ·rw[cmpN_gt h,cmpN_gt (lt_of_top ht hl.symm (by omega) (fun i hi=>(hab i hi).symm) h)]
theorem cmp_same {B:Nat}{s t:List Nat}(hl:s.length=t.length) (hab:∀i,i<s.length→s.getD i 0=t.getD i 0):cmpN (val B s) (val B t)=0:=by
 have:s=t:=List.ext_getElem hl fun i h1 h2=>by
  have:=hab i h1
  simpa[List.getD_eq_getElem?_getD,List.getElem?_eq_getElem h1,List.getElem?_eq_getElem h2]using this
 rw[this,cmpN_eq]
theorem cmp_len {B:Nat}(hB:2≤B) {a b:Nat}(h:(digs B a).length≠(digs B b).length):cmpN (digs B a).length (digs B b).length=cmpN a b:=by
 have key:∀{a b:Nat},(digs B a).length<(digs B b).length→a<b:=fun{a b} h=>by
  have h1:=(digs_length_le hB a (digs B a).length).1 (Nat.le_refl _)
  have h2:¬(digs B b).length≤(digs B a).length:=by omega
  rw[digs_length_le hB]at h2;omega
 rcases Nat.lt_or_gt_of_ne h with h|h
 ·rw[cmpN_lt h,cmpN_lt (key h)]
 ·rw[cmpN_gt h,cmpN_gt (key h)]
end Go.Proofs.YtffaefjkpipjnaaGreatDoor
namespace Go.Proofs.YtffaefjkpipjnaaGreatDoor
set_option maxRecDepth 100000
end Go.Proofs.YtffaefjkpipjnaaGreatDoor

namespace Go.Proofs.YtffaefjkpipjnaaGreatDoor
set_option maxRecDepth 100000
def low2F:Nat→Nat→Nat
 |0,_=>0
 |f+1,n=>if n%2=0 then low2F f (n/2)+1 else 0
def low2 (n:Nat):Nat:=if n=0 then 0 else low2F n n
theorem low2F_eq:∀(f n:Nat),n≠0→n≤f→∃m,n=2^low2F f n*(2*m+1)
 |0,n,h0,h=>by omega
 |f+1,n,h0,h=>by
  unfold low2F
  by_cases h2:n%2=0
  ·rw[if_pos h2]
   obtain⟨m,hm⟩:=low2F_eq f (n/2) (by omega) (by omega)
   refine⟨m,?_⟩
   rw[Nat.pow_succ,Nat.mul_comm _ 2,Nat.mul_assoc,←hm];omega
  ·rw[if_neg h2,Nat.pow_zero]
   exact⟨n/2,by omega⟩
theorem low2_eq {n:Nat}(h:n≠0):∃m,n=2^low2 n*(2*m+1):=by
 unfold low2
 rw[if_neg h]
 exact low2F_eq n n h (Nat.le_refl _)
theorem pow_odd_inj {j k a b:Nat}(h:2^j*(2*a+1)=2^k*(2*b+1)):j=k:=by
 rcases Nat.lt_trichotomy j k with h1|h1|h1
 ·exfalso
  obtain⟨d,rfl⟩:∃d,k=j+1+d:=⟨k-j-1,by omega⟩
  rw[Nat.pow_add,Nat.pow_succ,Nat.mul_assoc,Nat.mul_assoc]at h
  have:=Nat.eq_of_mul_eq_mul_left (Nat.pow_pos (by omega)) h
  omega
 ·exact h1
 ·exfalso
  obtain⟨d,rfl⟩:∃d,j=k+1+d:=⟨j-k-1,by omega⟩
  rw[Nat.pow_add,Nat.pow_succ,Nat.mul_assoc,Nat.mul_assoc]at h
  have:=Nat.eq_of_mul_eq_mul_left (Nat.pow_pos (by omega)) h
  omega
theorem low2_uniq {n k m:Nat}(h:n=2^k*(2*m+1)):low2 n=k:=by
 have h0:n≠0:=by
  rw[h];exact Nat.mul_ne_zero (Nat.ne_of_gt (Nat.pow_pos (by omega))) (by omega)
 obtain⟨a,ha⟩:=low2_eq h0
 exact pow_odd_inj (ha.symm.trans h)
theorem odd_eq {n k m:Nat}(h:n=2^k*(2*m+1)):n/2^k=2*m+1:=by
 rw[h,Nat.mul_div_cancel_left _ (Nat.pow_pos (by omega))]
structure Dn where
 neg:Bool
 m:Nat
 e:Int
def cutE (e:Int):Int:=min (max e (-2147483648)) 2147483648
def bareD (d:Dn):Dn:=if d.m=0 then⟨false,0,0⟩else⟨d.neg,d.m/2^low2 d.m,cutE d.e+(low2 d.m:Nat)⟩
def fitsE (e:Int):Bool:=decide (-1073741824≤e)&&decide (e≤1073741824)
theorem bareD_zero {d:Dn}(h:d.m=0):bareD d=⟨false,0,0⟩:=by unfold bareD;rw[if_pos h]
theorem bareD_pos {d:Dn}(h:d.m≠0):bareD d=⟨d.neg,d.m/2^low2 d.m,cutE d.e+(low2 d.m:Nat)⟩:=by unfold bareD;rw[if_neg h]
theorem bareD_m_le (d:Dn):(bareD d).m≤d.m:=by
 unfold bareD;split
 ·exact Nat.zero_le _
 ·exact Nat.div_le_self _ _
theorem bareD_m_zero (d:Dn):(bareD d).m=0↔d.m=0:=by
 by_cases h:d.m=0
 ·rw[bareD_zero h,h]
 ·rw[bareD_pos h]
  obtain⟨k,hk⟩:=low2_eq h
  show d.m/2^low2 d.m=0↔_
  rw[odd_eq hk]
  constructor
  ·intro h2;omega
  ·intro h2;exact absurd h2 h
theorem low2_lt {n:Nat}(h:n≠0):low2 n<bitN n:=by
 obtain⟨k,hk⟩:=low2_eq h
 apply lt_bitN.2
 have:=Nat.le_mul_of_pos_right (2^low2 n) (show 0<2*k+1 by omega)
 omega
theorem cutE_range (e:Int): -2147483648≤cutE e∧cutE e≤2147483648:=by unfold cutE;omega
theorem low2_odd {n:Nat}(h:n%2=1):low2 n=0:=low2_uniq (k:=0) (m:=n/2) (by rw[Nat.pow_zero];omega)
def signD (d:Dn):Int:=if d.m=0 then 0 else if d.neg then-1 else 1
def cmpM (a b:Dn):Int:=cmpN (a.m*2^(a.e-min a.e b.e).toNat) (b.m*2^(b.e-min a.e b.e).toNat)
def cmpI (x y:Int):Int:=if x<y then-1 else if x>y then 1 else 0
def cmpD (a b:Dn):Int:=if signD a≠signD b∨signD a=0 then cmpI (signD a) (signD b)else signD a*cmpM a b
def topD (d:Dn):Int:=(bitN d.m:Nat)-1+d.e
theorem bitN_shift {m:Nat}(h:m≠0) (k:Nat):bitN (m*2^k)=bitN m+k:=by
 have:=bitN_add (p:=k) (lo:=0) (t:=m) (Nat.pow_pos (by omega)) h
 rw[Nat.zero_add,Nat.mul_comm]at this
 rw[this,Nat.add_comm]
theorem lt_of_bitN {a b:Nat}(h:bitN a<bitN b):a<b:=by
 have h1:=bitN_lt a
 have h2:2^bitN a≤b:=lt_bitN.1 h
 omega
theorem cmpM_tops {a b:Dn}(ha:a.m≠0) (hb:b.m≠0) (h:(bitN a.m:Int)+a.e≠(bitN b.m:Int)+b.e):cmpM a b=cmpI ((bitN a.m:Int)+a.e) ((bitN b.m:Int)+b.e):=by
 have e1:=bitN_shift ha (a.e-min a.e b.e).toNat
 have e2:=bitN_shift hb (b.e-min a.e b.e).toNat
 have t1:((a.e-min a.e b.e).toNat:Int)=a.e-min a.e b.e:=Int.toNat_of_nonneg (by omega)
 have t2:((b.e-min a.e b.e).toNat:Int)=b.e-min a.e b.e:=Int.toNat_of_nonneg (by omega)
 unfold cmpM cmpI
 rcases Int.lt_or_gt_of_ne h with h1|h1
 ·rw[if_pos h1]
  exact cmpN_lt (lt_of_bitN (by omega))
 ·rw[if_neg (by omega),if_pos h1]
  exact cmpN_gt (lt_of_bitN (by omega))
theorem cmpM_same {a b:Dn}(h:(bitN a.m:Int)+a.e=(bitN b.m:Int)+b.e):cmpM a b=cmpN (a.m*2^(bitN b.m-bitN a.m)) (b.m*2^(bitN a.m-bitN b.m)):=by
 unfold cmpM
 congr 3
 ·congr 1;omega
 ·congr 1;omega
end Go.Proofs.YtffaefjkpipjnaaGreatDoor
namespace Go.Proofs.YtffaefjkpipjnaaGreatDoor
set_option maxRecDepth 100000
def addR (neg neg2:Bool) (X Y:Nat):Bool×Nat:=if neg=neg2 then(neg,X+Y)else if Y≤X then(neg,X-Y)else(neg2,Y-X)
def makeQ (d:Dn):Bool×Nat×Int×Int:=if fitsE (bareD d).e=true then((bareD d).neg,(bareD d).m,(bareD d).e,0)else(false,0,0,2)
def sumD (a b:Dn):Dn:=⟨(addR a.neg b.neg (a.m*2^(a.e-min a.e b.e).toNat) (b.m*2^(b.e-min a.e b.e).toNat)).1,(addR a.neg b.neg (a.m*2^(a.e-min a.e b.e).toNat) (b.m*2^(b.e-min a.e b.e).toNat)).2,min a.e b.e⟩
def addQ (a b:Dn):Bool×Nat×Int×Int:=
 if fitsE (bareD a).e=false then(false,0,0,2)else if fitsE (bareD b).e=false then(false,0,0,2)
 else if(bareD a).m=0 then((bareD b).neg,(bareD b).m,(bareD b).e,0)else if(bareD b).m=0 then((bareD a).neg,(bareD a).m,(bareD a).e,0)
 else if 65535<max (topD (bareD a)) (topD (bareD b))-min (bareD a).e (bareD b).e then(false,0,0,2)else makeQ (sumD (bareD a) (bareD b))
end Go.Proofs.YtffaefjkpipjnaaGreatDoor
namespace Go.Proofs.YtffaefjkpipjnaaGreatDoor
set_option maxRecDepth 100000
theorem bareD_bits {neg n':Bool}{M M':Nat}{E E':Int}(e:bareD ⟨neg,M,E⟩=⟨n',M',E'⟩):bitN M'≤bitN M:=by
 have h:=bareD_m_le ⟨neg,M,E⟩
 rw[e]at h
 exact bitN_mono h
theorem bareD_again {neg n':Bool}{M M':Nat}{E E':Int}(e:bareD ⟨neg,M,E⟩=⟨n',M',E'⟩) (h1: -2147483648≤E') (h2:E'≤2147483648):bareD ⟨n',M',E'⟩=⟨n',M',E'⟩:=by
 by_cases h0:M=0
 ·rw[bareD_zero h0]at e
  injection e with e1 e2 e3
  subst e1;subst e2;subst e3
  rfl
 ·rw[bareD_pos h0]at e
  injection e with e1 e2 e3
  obtain⟨m,hm⟩:=low2_eq h0
  have:M'%2=1:=by rw[←e2,odd_eq hm];omega
  have h3:(⟨n',M',E'⟩:Dn).m≠0:=by show M'≠0;omega
  rw[bareD_pos h3]
  show(⟨n',M'/2^low2 M',cutE E'+(low2 M':Nat)⟩:Dn)=_
  rw[low2_odd this,Nat.pow_zero,Nat.div_one,show cutE E'=E' by unfold cutE;omega]
  simp
theorem bareD_fits {neg n':Bool}{M M':Nat}{E E':Int}(e:bareD ⟨neg,M,E⟩=⟨n',M',E'⟩) (sM:bitN M≤400000) (h1: -1000000000≤E) (h2:E≤1000000000):fitsE E'=true∧-1000000000≤E'∧E'≤1001000000:=by
 by_cases h0:M=0
 ·rw[bareD_zero h0]at e
  injection e with e1 e2 e3
  subst e3
  exact⟨rfl,by omega,by omega⟩
 ·rw[bareD_pos h0]at e
  injection e with e1 e2 e3
  have h3:=low2_lt (n:=M) h0
  have h4:cutE E=E:=by unfold cutE;omega
  dsimp only at e3
  rw[h4]at e3
  refine⟨?_,by omega,by omega⟩
  unfold fitsE
  rw[Bool.and_eq_true]
  exact⟨decide_eq_true (by omega),decide_eq_true (by omega)⟩
theorem bareD_oddM {n n':Bool}{M M':Nat}{E E':Int}(e:bareD ⟨n,M,E⟩=⟨n',M',E'⟩) (h:M'≠0):M'%2=1:=by
 have h0:M≠0:=fun h0=>by
  rw[bareD_zero h0]at e
  injection e with e1 e2 e3
  exact h e2.symm
 rw[bareD_pos h0]at e
 injection e with e1 e2 e3
 obtain⟨m,hm⟩:=low2_eq h0
 rw[←e2]
 show M/2^low2 M%2=1
 rw[odd_eq hm];omega
end Go.Proofs.YtffaefjkpipjnaaGreatDoor

namespace Go.Proofs.YtffaefjkpipjnaaGreatDoor
set_option maxRecDepth 100000
theorem rq_mul_le {a b c d:Rat}(ha:0≤a) (hab:a≤b) (hc:0≤c) (hcd:c≤d):a*c≤b*d:=
 Rat.le_trans (Rat.mul_le_mul_of_nonneg_right hab hc) (Rat.mul_le_mul_of_nonneg_left hcd (Rat.le_trans ha hab))
theorem rq_nat_nonneg (n:Nat):(0:Rat)≤(n:Rat):=by
 have:=Rat.natCast_le_natCast.2 (Nat.zero_le n)
 simpa using this
theorem rq_nat_pos {n:Nat}(h:0<n):(0:Rat)<(n:Rat):=by
 have:=Rat.natCast_lt_natCast.2 h
 simpa using this
theorem rq_le {a b:Nat}(h:a≤b):(a:Rat)≤(b:Rat):=Rat.natCast_le_natCast.2 h
theorem rq_unle {a b:Nat}(h:(a:Rat)≤(b:Rat)):a≤b:=Rat.natCast_le_natCast.1 h
theorem rq_pow_nonneg {x:Rat}(h:0≤x) (n:Nat):0≤x^n:=Rat.pow_nonneg h
theorem rq_pow_mono {x y:Rat}(h:0≤x) (hy:x≤y):∀n:Nat,x^n≤y^n
 |0=>by simp
 |n+1=>by
  rw[Rat.pow_succ,Rat.pow_succ]
  exact rq_mul_le (rq_pow_nonneg h n) (rq_pow_mono h hy n) h hy
theorem rq_pow_le_one {x:Rat}(h:0≤x) (hy:x≤1):∀n:Nat,x^n≤1
 |0=>by simp
 |n+1=>by
  rw[Rat.pow_succ]
  have:=rq_mul_le (rq_pow_nonneg h n) (rq_pow_le_one h hy n) h hy
  grind
def cdiv (a b:Nat):Nat:=if a%b=0 then a/b else a/b+1
theorem cdiv_ge (a:Nat) {b:Nat}(hb:0<b):a≤cdiv a b*b:=by
 unfold cdiv
 have:=Nat.div_add_mod a b
 have h2:=Nat.mod_lt a hb
 split
 ·rw[Nat.mul_comm];omega
 ·rw[Nat.add_mul,Nat.mul_comm];omega
theorem cdiv_lt (a:Nat) {b:Nat}(hb:0<b):cdiv a b*b<a+b:=by
 unfold cdiv
 have:=Nat.div_add_mod a b
 have h2:=Nat.mod_lt a hb
 split
 ·rw[Nat.mul_comm];omega
 ·rw[Nat.add_mul,Nat.mul_comm];omega
theorem div_le' (a b:Nat):a/b*b≤a:=Nat.div_mul_le_self a b
theorem lt_div' (a:Nat) {b:Nat}(hb:0<b):a<a/b*b+b:=by
 have:=Nat.div_add_mod a b
 have h2:=Nat.mod_lt a hb
 rw[Nat.mul_comm];omega
theorem div_le_cdiv (a b:Nat):a/b≤cdiv a b:=by unfold cdiv;split<;>omega
theorem cdiv_le_of {a b c:Nat}(hb:0<b) (h:a≤c*b):cdiv a b≤c:=by
 have h1:=cdiv_lt a hb
 have h2:cdiv a b*b<(c+1)*b:=by rw[Nat.add_mul];omega
 have:=Nat.lt_of_mul_lt_mul_right h2
 omega
theorem cdiv_zero (b:Nat):cdiv 0 b=0:=by simp[cdiv]
theorem rq_div_le (a b:Nat):((a/b:Nat):Rat)*(b:Rat)≤(a:Rat):=by
 have:=rq_le (div_le' a b)
 rwa [Rat.natCast_mul]at this
theorem rq_lt_div (a:Nat) {b:Nat}(hb:0<b):(a:Rat)≤((a/b:Nat):Rat)*(b:Rat)+(b:Rat):=by
 have:=rq_le (Nat.le_of_lt (lt_div' a hb))
 rwa [Rat.natCast_add,Rat.natCast_mul]at this
theorem rq_cdiv_ge (a:Nat) {b:Nat}(hb:0<b):(a:Rat)≤((cdiv a b:Nat):Rat)*(b:Rat):=by
 have:=rq_le (cdiv_ge a hb)
 rwa [Rat.natCast_mul]at this
theorem rq_cdiv_lt (a:Nat) {b:Nat}(hb:0<b):((cdiv a b:Nat):Rat)*(b:Rat)≤(a:Rat)+(b:Rat):=by
 have:=rq_le (Nat.le_of_lt (cdiv_lt a hb))
 rwa [Rat.natCast_add,Rat.natCast_mul]at this
theorem rq_cancel {a b c:Rat}(hc:0<c) (h:a*c≤b*c):a≤b:=Rat.le_of_mul_le_mul_right h hc
theorem rq_inv (n:Nat) (hn:0<n):((n:Rat))⁻¹*(n:Rat)=1:=by
 have h:=rq_nat_pos hn
 exact Rat.inv_mul_cancel _ (fun e=>by rw[e]at h;exact Rat.lt_irrefl h)
theorem rq_inv_nonneg (n:Nat):(0:Rat)≤((n:Rat))⁻¹:=by
 rcases Nat.eq_zero_or_pos n with rfl|hn
 ·simp
 ·have h:=rq_inv n hn
  have hp:=rq_nat_pos hn
  refine rq_cancel hp ?_
  rw[h];grind
end Go.Proofs.YtffaefjkpipjnaaGreatDoor
namespace Go.Proofs.YtffaefjkpipjnaaGreatDoor
set_option maxRecDepth 100000
set_option linter.unusedVariables false
def pw (e:Int):Rat:=(2:Rat)^e
theorem pw_pos (e:Int):0<pw e:=Rat.zpow_pos (by decide)
theorem pw_zero:pw 0=1:=Rat.zpow_zero 2
theorem pw_add (a b:Int):pw (a+b)=pw a*pw b:=Rat.zpow_add (by decide) a b
theorem pw_nat (k:Nat):pw (k:Int)=((2^k:Nat):Rat):=by
 show(2:Rat)^((k:Nat):Int)=_
 rw[Rat.zpow_natCast,Rat.natCast_pow]
 rfl
theorem pw_neg (e:Int):pw (-e)*pw e=1:=by
 rw[←pw_add,show-e+e=0 by omega,pw_zero]
theorem pw_one:pw 1=2:=by
 have:=pw_nat 1
 exact this
theorem pw_mono {a b:Int}(h:a≤b):pw a≤pw b:=by
 obtain⟨k,rfl⟩:∃k:Nat,b=a+(k:Int):=⟨(b-a).toNat,by omega⟩
 rw[pw_add,pw_nat]
 have h1:((1:Nat):Rat)≤((2^k:Nat):Rat):=Rat.natCast_le_natCast.2 (Nat.one_le_two_pow)
 have h2:=Rat.mul_le_mul_of_nonneg_left h1 (Rat.le_of_lt (pw_pos a))
 rw[show((1:Nat):Rat)=1 from rfl,Rat.mul_one]at h2
 exact h2
def qv (d:Dn):Rat:=if d.neg then-((d.m:Rat)*pw d.e)else(d.m:Rat)*pw d.e
theorem qv_zero {d:Dn}(h:d.m=0):qv d=0:=by
 unfold qv
 rw[h,show((0:Nat):Rat)=0 from rfl,Rat.zero_mul]
 split
 ·rfl
 ·rfl
theorem qv_pos {m:Nat}{e:Int}:qv ⟨false,m,e⟩=(m:Rat)*pw e:=rfl
theorem qv_neg {m:Nat}{e:Int}:qv ⟨true,m,e⟩= -((m:Rat)*pw e):=rfl
theorem qv_bare {d:Dn}(h1: -2147483648≤d.e) (h2:d.e≤2147483648):qv (bareD d)=qv d:=by
 by_cases h0:d.m=0
 ·rw[bareD_zero h0,qv_zero rfl,qv_zero h0]
 ·rw[bareD_pos h0]
  obtain⟨k,hk⟩:=low2_eq h0
  have hc:cutE d.e=d.e:=by unfold cutE;omega
  have e:((d.m/2^low2 d.m:Nat):Rat)*pw (cutE d.e+(low2 d.m:Nat))=(d.m:Rat)*pw d.e:=by
   have h3:d.m/2^low2 d.m*2^low2 d.m=d.m:=by
    rw[odd_eq hk,Nat.mul_comm];exact hk.symm
   rw[hc,pw_add,pw_nat]
   have h4:((d.m:Nat):Rat)=((d.m/2^low2 d.m:Nat):Rat)*((2^low2 d.m:Nat):Rat):=by
    rw[←Rat.natCast_mul,h3]
   generalize ((d.m/2^low2 d.m:Nat):Rat)=a at*
   generalize ((2^low2 d.m:Nat):Rat)=b at*
   rw[h4]
   grind
  unfold qv
  dsimp only
  rw[e]
def sv (d:Dn) (z:Int):Int:=if d.neg then-((d.m*2^(d.e-z).toNat:Nat):Int)else((d.m*2^(d.e-z).toNat:Nat):Int)
theorem qv_sv {d:Dn}{z:Int}(h:z≤d.e):qv d=((sv d z:Int):Rat)*pw z:=by
 have e:((d.m*2^(d.e-z).toNat:Nat):Rat)*pw z=(d.m:Rat)*pw d.e:=by
  have h1:d.e=((d.e-z).toNat:Int)+z:=by omega
  rw[Rat.natCast_mul,h1,pw_add,pw_nat,←h1]
  grind
 unfold qv sv
 split
 ·rw[Rat.intCast_neg]
  have:((((d.m*2^(d.e-z).toNat:Nat):Int)):Rat)=((d.m*2^(d.e-z).toNat:Nat):Rat):=rfl
  rw[this,Rat.neg_mul,e]
 ·have:((((d.m*2^(d.e-z).toNat:Nat):Int)):Rat)=((d.m*2^(d.e-z).toNat:Nat):Rat):=rfl
  rw[this,e]
theorem cmpD_sv (a b:Dn):cmpD a b=cmpI (sv a (min a.e b.e)) (sv b (min a.e b.e)):=by
 unfold cmpD sv signD cmpM cmpN cmpI
 obtain⟨an,am,ae⟩:=a
 obtain⟨bn,bm,be⟩:=b
 dsimp only
 have hA:am*2^(ae-min ae be).toNat=0↔am=0:=by
  rw[Nat.mul_eq_zero]
  have:=Nat.two_pow_pos (ae-min ae be).toNat
  omega
 have hB:bm*2^(be-min ae be).toNat=0↔bm=0:=by
  rw[Nat.mul_eq_zero]
  have:=Nat.two_pow_pos (be-min ae be).toNat
  omega
 generalize am*2^(ae-min ae be).toNat=A at*
 generalize bm*2^(be-min ae be).toNat=B at*
 by_cases ha:am=0
 ·have:A=0:=hA.2 ha
  by_cases hb:bm=0
  ·have:B=0:=hB.2 hb
   subst_vars
   cases an<;>cases bn<;>simp
  ·have:B≠0:=fun e=>hb (hB.1 e)
   cases an<;>cases bn<;>simp[ha,hb]<;>(repeat' split)<;>omega
 ·have:A≠0:=fun e=>ha (hA.1 e)
  by_cases hb:bm=0
  ·have:B=0:=hB.2 hb
   cases an<;>cases bn<;>simp[ha,hb]<;>(repeat' split)<;>omega
  ·have:B≠0:=fun e=>hb (hB.1 e)
   cases an<;>cases bn<;>simp[ha,hb]<;>(repeat' split)<;>omega
theorem cmpD_val (a b:Dn):(qv a<qv b∧cmpD a b= -1)∨(qv a=qv b∧cmpD a b=0)∨(qv b<qv a∧cmpD a b=1):=by
 rw[cmpD_sv,qv_sv (d:=a) (z:=min a.e b.e) (by omega),qv_sv (d:=b) (z:=min a.e b.e) (by omega)]
 have hp:=pw_pos (min a.e b.e)
 generalize pw (min a.e b.e)=p at*
 generalize sv a (min a.e b.e)=x
 generalize sv b (min a.e b.e)=y
 unfold cmpI
 rcases Int.lt_trichotomy x y with h|h|h
 ·exact .inl ⟨Rat.mul_lt_mul_of_pos_right (Rat.intCast_lt_intCast.2 h) hp,by rw[if_pos h]⟩
 ·exact .inr (.inl ⟨by rw[h],by rw[if_neg (by omega),if_neg (by omega)]⟩)
 ·exact .inr (.inr ⟨Rat.mul_lt_mul_of_pos_right (Rat.intCast_lt_intCast.2 h) hp,by rw[if_neg (by omega),if_pos (by omega)]⟩)
theorem cmpD_le {a b:Dn}(h:qv a≤qv b):cmpD a b≤0:=by
 rcases cmpD_val a b with⟨h1,h2⟩|⟨h1,h2⟩|⟨h1,h2⟩
 ·omega
 ·omega
 ·exact absurd h (by grind)
theorem cmpD_ge {a b:Dn}(h:qv b≤qv a):0≤cmpD a b:=by
 rcases cmpD_val a b with⟨h1,h2⟩|⟨h1,h2⟩|⟨h1,h2⟩
 ·exact absurd h (by grind)
 ·omega
 ·omega
theorem cmpD_gt {a b:Dn}(h:qv b<qv a):cmpD a b=1:=by
 rcases cmpD_val a b with⟨h1,h2⟩|⟨h1,h2⟩|⟨h1,h2⟩
 ·exact absurd h (by grind)
 ·exact absurd h (by grind)
 ·exact h2
theorem signD_val (d:Dn):(qv d<0∧signD d= -1)∨(qv d=0∧signD d=0)∨(0<qv d∧signD d=1):=by
 unfold signD
 by_cases h0:d.m=0
 ·exact .inr (.inl ⟨qv_zero h0,by rw[if_pos h0]⟩)
 ·rw[if_neg h0]
  have hp:0<(d.m:Rat)*pw d.e:=Rat.mul_pos (rq_nat_pos (Nat.pos_of_ne_zero h0)) (pw_pos _)
  unfold qv
  cases d.neg
  ·exact .inr (.inr ⟨hp,rfl⟩)
  ·refine .inl ⟨?_,rfl⟩
   simp only[if_pos]
   grind
end Go.Proofs.YtffaefjkpipjnaaGreatDoor

namespace Go.Proofs.YtffaefjkpipjnaaGreatDoor
set_option linter.unusedVariables false
set_option linter.unusedSimpArgs false
set_option maxRecDepth 100000
def isBrk (M:Nat) (E:Int):Bool:=
 if 1023<topD ⟨false,M,E⟩then decide (E=1024)&&decide (bitN M=1)else decide (max (topD ⟨false,M,E⟩-52) (-1074)-1≤E)
end Go.Proofs.YtffaefjkpipjnaaGreatDoor

namespace Go.Proofs.YtffaefjkpipjnaaGreatDoor
set_option maxRecDepth 100000
set_option linter.unusedVariables false
def sigF (s:Nat):Nat:=if s/4503599627370496=0 then s else s%4503599627370496+4503599627370496
def unitE (s:Nat):Int:=if s/4503599627370496=0 then-1074 else((s/4503599627370496:Nat):Int)-1075
def szv (s:Nat):Rat:=(sigF s:Rat)*pw (unitE s)
def mdv (s:Nat):Rat:=((2*sigF s+1:Nat):Rat)*pw (unitE s-1)
theorem sz_code {G n:Nat}(h:(n=0∧G<9007199254740992)∨(4503599627370496≤G∧G<9007199254740992)):
 sigF (n*4503599627370496+G)=G∧unitE (n*4503599627370496+G)=(n:Int)-1074:=by
 unfold sigF unitE
 rcases h with⟨rfl,h⟩|⟨h1,h2⟩
 ·rw[Nat.zero_mul,Nat.zero_add]
  by_cases hd:G/4503599627370496=0
  ·rw[if_pos hd,if_pos hd];exact⟨rfl,rfl⟩
  ·rw[if_neg hd,if_neg hd];omega
 ·have hd:¬(n*4503599627370496+G)/4503599627370496=0:=by omega
  rw[if_neg hd,if_neg hd];omega
theorem sz_next (s:Nat):(sigF (s+1)=sigF s+1∧unitE (s+1)=unitE s)∨(sigF s+1=9007199254740992∧sigF (s+1)=4503599627370496∧unitE (s+1)=unitE s+1):=by
 unfold sigF unitE
 by_cases h1:s/4503599627370496=0
 ·by_cases h2:(s+1)/4503599627370496=0
  ·rw[if_pos h1,if_pos h1,if_pos h2,if_pos h2];exact .inl ⟨rfl,rfl⟩
  ·rw[if_pos h1,if_pos h1,if_neg h2,if_neg h2];left;omega
 ·have h2:¬(s+1)/4503599627370496=0:=by omega
  rw[if_neg h1,if_neg h1,if_neg h2,if_neg h2]
  omega
theorem pw_succ (e:Int):pw (e+1)=2*pw e:=by
 rw[pw_add,pw_one];grind
theorem szv_succ (s:Nat):szv (s+1)=((sigF s+1:Nat):Rat)*pw (unitE s):=by
 unfold szv
 rcases sz_next s with⟨h1,h2⟩|⟨h1,h2,h3⟩
 ·rw[h1,h2]
 ·rw[h1,h2,h3,pw_succ]
  have:((9007199254740992:Nat):Rat)=((4503599627370496:Nat):Rat)*2:=by
   rw[show(9007199254740992:Nat)=4503599627370496*2 from rfl,Rat.natCast_mul];rfl
  rw[this]
  grind
theorem szv_mid (s:Nat):szv s<mdv s∧mdv s<szv (s+1):=by
 have hp:=pw_pos (unitE s-1)
 have hu:pw (unitE s)=2*pw (unitE s-1):=by rw[←pw_succ];congr 1;omega
 rw[szv_succ]
 unfold szv mdv
 rw[hu,Rat.natCast_add,Rat.natCast_add,Rat.natCast_mul]
 have h2:((2:Nat):Rat)=2:=rfl
 have h1:((1:Nat):Rat)=1:=rfl
 rw[h1,h2]
 generalize pw (unitE s-1)=p at*
 generalize ((sigF s:Nat):Rat)=f
 constructor
 ·have:(2*f+1)*p=f*(2*p)+p:=by grind
  rw[this];grind
 ·have:(f+1)*(2*p)=(2*f+1)*p+p:=by grind
  rw[this];grind
theorem szv_lt (s:Nat):szv s<szv (s+1):=by
 have:=szv_mid s
 grind
theorem szv_mono {s t:Nat}(h:s≤t):szv s≤szv t:=by
 obtain⟨d,rfl⟩:∃d,t=s+d:=⟨t-s,by omega⟩
 induction d with
 |zero=>exact Rat.le_refl
 |succ d ih=>exact Rat.le_trans (ih (by omega)) (Rat.le_of_lt (szv_lt (s+d)))
theorem szv_mono_lt {s t:Nat}(h:s<t):szv s<szv t:=by
 have h1:=szv_lt s
 have h2:=szv_mono (show s+1≤t by omega)
 grind
theorem sigF_pos {s:Nat}(h:0<s):sigF s≠0:=by unfold sigF;split<;>omega
theorem sigF_lt (s:Nat):sigF s<9007199254740992:=by unfold sigF;split<;>omega
theorem unitE_ge (s:Nat): -1074≤unitE s:=by unfold unitE;split<;>omega
theorem unitE_lt {s:Nat}(h:s<9218868437227405312):unitE s≤971:=by unfold unitE;split<;>omega
end Go.Proofs.YtffaefjkpipjnaaGreatDoor
namespace Go.Proofs.YtffaefjkpipjnaaGreatDoor
set_option maxRecDepth 100000
set_option linter.unusedVariables false
def pa (X:Rat) (m:Int):Rat:=if 0≤m then X^m.natAbs else 1
end Go.Proofs.YtffaefjkpipjnaaGreatDoor
namespace Go.Proofs.YtffaefjkpipjnaaGreatDoor
set_option maxRecDepth 100000
set_option linter.unusedVariables false
end Go.Proofs.YtffaefjkpipjnaaGreatDoor
namespace Go.Proofs.YtffaefjkpipjnaaGreatDoor
set_option maxRecDepth 100000
set_option linter.unusedVariables false
end Go.Proofs.YtffaefjkpipjnaaGreatDoor
