/- A region that draws its order and only reads, in a round of a range over a function: walked once, in the text's order. Conditions: no operation of it is a defer statement. -/
import Derived.RangeFuncCalls
import Derived.Sort.QuietTacIn
import Derived.OrdersIn
import Derived.RangeFuncNested
import Derived.RangeFuncBound
import Derived.RangeFuncLeaves
import Derived.Shelf.Abstract
import Derived.Shelf.RegionOpen
import Derived.WalkKit
import Derived.OwnWalkIn
import Derived.TacticsInMore
import Derived.LoopNIn
import Derived.LoopIn
import Derived.Test.YtffaefjkpipjnaaGreatDoorPkC04
import Derived.Test.YtffaefjkpipjnaaGreatDoorPkC01
import Derived.Test.YtffaefjkpipjnaaGreatDoorPkC05
namespace Go.Proofs.YtffaefjkpipjnaaGreatDoor
set_option maxRecDepth 100000
open Go.RowKit
theorem uponIn_round (F:Fence) (l n:Nat) (P:Program) (o:Oper) (a:Act) (next:Act→World→Prop) (Q:Exit→Act→World→Prop) (r:Result Next):
 o.uponIn (F.inRound l) n P a next Q r=o.uponIn F n P a next Q r:=by
 unfold Oper.uponIn
 rfl
theorem operIn_round {F:Fence}(l n:Nat) (P:Program) (o:Oper) (hd:∀c,o.op≠ .defer c) (a:Act) (w:World) (next:Act→World→Prop) (Q:Exit→Act→World→Prop):
 o.wpIn (F.inRound l) n P a w next Q=o.wpIn F n P a w next Q:=by
 unfold Oper.wpIn
 rw[uponIn_round,Oper.semAt_eq _ _ _ hd,Oper.semAt_eq _ _ _ hd]
 rfl
theorem opsIn_round {F:Fence}(l n:Nat) (P:Program) (ops:Array Oper) (hd:∀(i:Nat) (o:Oper),ops[i]?=some o→∀c,o.op≠ .defer c) (Q:Exit→Act→World→Prop):
 ∀(r:List Nat),wpOpsIn (F.inRound l) n P ops Q r=wpOpsIn F n P ops Q r
 |[]=>rfl
 |i::r=>by
  funext a w
  have ih:=opsIn_round (F:=F) l n P ops hd Q r
  simp only[wpOpsIn]
  cases ho:ops[i]? with
  |none=>simp only[ih]
  |some o=>simp only[ih,operIn_round l n P o (hd i o ho)];rfl
def noDefer:Op→Bool
 | .defer _=>false
 |_=>true
theorem noDefer_of {ops:Array Oper}(h:ops.all (fun o=>noDefer o.op)=true):∀(i:Nat) (o:Oper),ops[i]?=some o→∀c,o.op≠ .defer c:=fun i o hi c hc=>by
 have h1:=(Array.all_eq_true_iff_forall_mem.1 h) o (Array.mem_of_getElem? hi)
 rw[hc]at h1
 exact Bool.noConfusion h1
theorem wpIn_region_quiet_round {F:Fence}{n:Nat}{P:Program}{id:Nat}{Q:Exit→Act→World→Prop}{a:Act}{w:World}{r:List Oper}{l:Nat}(hro:F.round=none) (hm:P.follows .mixedOrders=true) (hB:Region.lexB .any r.toArray=true) (hd:r.toArray.all (fun o=>noDefer o.op)=true)
 (h:wpQuietIn F n P r.toArray (fun w'=>∃n,w'=w.drewN n) (fun a'=>∀w',(∃n,w'=w.drewN n)→Q .normal a' w') r a):(Code.region id r.toArray true).wpIn (F.inRound l) n P Q a w:=by
 refine wpIn_region_draw fun t=>?_
 rw[opsIn_round l n P _ (noDefer_of hd)]
 simp only[Bool.and_eq_true,Region.lexB]at hB
 simp only[Region.schedule,hm,Bool.true_or,if_true]
 refine wpAnyIn_sound _ t _ a _ (wpAnyIn_of_quiet (C:=fun w'=>∃n,w'=w.drewN n) (Q:=fun a'=>∀w',(∃n,w'=w.drewN n)→Q .normal a' w') hro (fun _ w' hw' h=>h w' hw') _ _ _ _ ⟨1,rfl⟩ ?_)
 have:=wpAnyQIn_lex (F:=F) (n:=n) (C:=fun w'=>∃n,w'=w.drewN n) (md:= .any) hB.1 r 0 (Array.replicate r.toArray.size false) a (by simp) (by simpa using hB.2) h
 simpa using this
theorem asked_wide (P:Program) (o:Oper) (a:Act) (C:World→Prop):o.askedIn Fence.wide P a C:=fun _ _ _ _=>trivial
end Go.Proofs.YtffaefjkpipjnaaGreatDoor
namespace Go.Proofs.YtffaefjkpipjnaaGreatDoor
set_option maxRecDepth 100000
open Go.RowKit Go.Shelf
attribute [local go_sem] Oper.semAt_some
theorem isnan_u {w:World}(x:Nat):Calls Tryz.prog 141 #[L64 x] w fun e w'=>e= .returned (.bool false)∧w'=w:=by
 go_enter Tryz.func141,Tryz.ntmps141
 go_wp2
 go_ret
 exact⟨by simp,rfl⟩
theorem compare_u {w:World}(x y:Nat):Calls Tryz.prog 128 #[L64 x,L64 y] w fun e w'=>e= .returned (.int .i64 (cmpN x y))∧w'=w:=by
 rcases Nat.lt_trichotomy x y with h|h|h
 ·rw[cmpN_lt h]
  go_enter Tryz.func128,Tryz.ntmps128
  go_wp2_with (go_at_call 141;(with_reducible refine(isnan_u _).mono ?_);rintro e w1 ⟨rfl,rfl⟩)
  go_ret
  exact⟨rfl,rfl⟩
 ·subst h
  rw[cmpN_eq]
  go_enter Tryz.func128,Tryz.ntmps128
  go_wp2_with (go_at_call 141;(with_reducible refine(isnan_u _).mono ?_);rintro e w1 ⟨rfl,rfl⟩)
  go_ret
  exact⟨rfl,rfl⟩
 ·rw[cmpN_gt h]
  go_enter Tryz.func128,Tryz.ntmps128
  go_wp2_with (go_at_call 141;(with_reducible refine(isnan_u _).mono ?_);rintro e w1 ⟨rfl,rfl⟩)
  go_ret
  exact⟨rfl,rfl⟩
theorem back_in (F:Fence) (n:Nat) (h5:F.fn 127) (hro:F.round=none) (a:Option Addr) (len cap:Nat) (w:World):
 CallsIn F n Tryz.prog 127 #[.slice a len cap] w fun e w'=>e= .returned (.func (.func 140) #[] #[.pointer (some ⟨w.heap.size,0,none⟩)])∧w'=w.alloc (.cells #[.slice a len cap] 55):=by
 refine callsIn_of_wp Tryz.func127 rfl h5 ?_ hro
 simp only[Tryz.ntmps127,List.size_toArray,List.length_cons,List.length_nil,Nat.reduceAdd,Nat.reduceSub,Array.replicate_succ,Array.replicate_zero,List.push_toArray,List.append_toArray,List.nil_append,List.cons_append]
 gi_wp2
 go_ret
 exact⟨rfl,rfl⟩
abbrev Pl (n:Nat):={j:Nat//j<n}
abbrev encB (s:List Nat) (x:Pl s.length):Array Value:= #[.int .i64 (x.1:Int),.int .u64 ((s[x.1]?.getD 0:Nat):Int)]
set_option maxRecDepth 100000 in
set_option maxHeartbeats 2000000 in
theorem back_stops (F:Fence) (n:Nat) (h8:F.fn 140) (hro:F.round=none) (hn:1≤n) (Bs:Nat) (v:Value) (s:List Nat) (hs:s.length≤100000) (w:World)
 (hBs:Bs<w.heap.size) (hc:w.cell? ⟨Bs,0,none⟩=some v) (hR:RdN w v s):
 SeqStopsK F n Tryz.prog 140 #[.pointer (some ⟨Bs,0,none⟩)] (encB s) (Below w.heap.size) (fun ys=>ys.map Subtype.val=came s.length s.length)
  (fun pre=>∃k,k≤s.length∧pre.map Subtype.val=came s.length k) s.length w:=fun l J Jx W hW _ _ hY h0=>by
 have hcW:=(hW.cell (p:=⟨Bs,0,none⟩) hBs).trans hc
 obtain⟨a,c,rfl,h2,h3,h4,hcell⟩:=hR.view
 have HV:=Lib.hid hcell
 clear hcell hR hc
 refine callsIn_of_wp Tryz.func140 rfl h8 ?_ hro
 simp only[Tryz.ntmps140,List.size_toArray,List.length_cons,List.length_nil,Nat.reduceAdd,Nat.reduceSub,Array.replicate_succ,Array.replicate_zero,List.push_toArray,List.append_toArray,List.nil_append,List.cons_append]
 gi_wp2
 gi_loopw [3] (fun i wr=>∃(k:Nat) (q:Int) (pre:List (Pl s.length)),k≤s.length∧i= .int .i64 q∧q+1+k=s.length∧pre.map Subtype.val=came s.length k∧J pre wr∧Below w.heap.size W wr)
  (fun i _=>(intOf i+1).toNat)
 case atStart=>exact⟨0,_,[],Nat.zero_le _,rfl,by omega,rfl,h0,Below.refl _ _⟩
 case round=>
  obtain⟨k,q,pre,hk,rfl,hq,hpre,hJs,hnx⟩:=hrel
  have hcw:=(hnx.cell (p:=⟨Bs,0,none⟩) hBs).trans hcW
  by_cases hlt:k<s.length
  ·obtain⟨j,hj⟩:∃j,s.length-1-k=j:=⟨_,rfl⟩
   have hjs:j<s.length:=by omega
   obtain rfl:q=(j:Int):=by omega
   have hlen:pre.length<s.length:=by
    have:=congrArg List.length hpre
    rw[List.length_map,came_len]at this;omega
   obtain⟨fn,tmps,assign,body,hy,hRd⟩:=hY pre ⟨j,hjs⟩ wr hJs hlen
   dsimp only[encB]at hy
   obtain⟨g,off,rfl,hg,hcell⟩:=HV.out j hjs
   have hcx:=(hnx.cell (p:=⟨g,off+j,none⟩) hg).trans ((hW.cell (p:=⟨g,off+j,none⟩) hg).trans hcell)
   clear hcell
   generalize s[j]?.getD 0=x at hcx hy
   gi_wp2
   refine hRd.mono ?_
   rintro e W3 (⟨rfl,hJ3,hk3⟩|⟨rfl,hJx3⟩)
   ·gi_wp2
    go_roundw
    case rel=>exact⟨k+1,(j:Int)-1,pre++[⟨j,hjs⟩],by omega,by go_num,by omega,by rw[List.map_append,hpre,came_succ,hj];rfl,hJ3,hnx.trans hk3⟩
    case measure=>simp[intOf]
   ·gi_wp2
    refine bodyPost_ret (results_none rfl _ _ _) rfl ?_
    exact⟨⟨_,rfl⟩,.inr ⟨_,⟨k+1,by omega,by rw[List.map_append,hpre,came_succ,hj];rfl⟩,hJx3⟩⟩
  ·obtain rfl:k=s.length:=by omega
   obtain rfl:q= -1:=by omega
   gi_wp2
   go_end0
   exact⟨⟨_,rfl⟩,.inl ⟨_,hpre,hJs⟩⟩
end Go.Proofs.YtffaefjkpipjnaaGreatDoor
namespace Go.Proofs.YtffaefjkpipjnaaGreatDoor
set_option maxRecDepth 100000
open Go.RowKit Go.Shelf
attribute [local go_sem] Oper.semAt_some
theorem below_alloc1 (w:World) (o:Obj):Below w.heap.size w (w.alloc o):=(Below.refl _ _).alloc (Nat.le_refl _) _
structure CB (b:Nat) (x y z:Value) (W:World):Prop where
 h2:W.heap[b]?=some (.cells #[x] 55 (0,0))
 h3:W.heap[b+1]?=some (.cells #[y] 55 (0,0))
 h4:W.heap[b+2]?=some (.cells #[z] 3 (0,0))
theorem CB.below {b:Nat}{x y z:Value}{W W':World}(h:CB b x y z W) (hb:Below W.heap.size W W'):CB b x y z W':=by
 have lt:b+2<W.heap.size:=(Array.getElem?_eq_some_iff.1 h.h4).1
 exact⟨(hb.block b (by omega)).trans h.h2,(hb.block (b+1) (by omega)).trans h.h3,(hb.block (b+2) lt).trans h.h4⟩
theorem CB.drew {b:Nat}{x y z:Value}{W:World}(h:CB b x y z W):CB b x y z W.drew:=⟨h.h2,h.h3,h.h4⟩
theorem CB.new (w:World) (x y z:Value):CB w.heap.size x y z (((w.alloc (.cells #[x] 55)).alloc (.cells #[y] 55)).alloc (.cells #[z] 3)):=by
 have a1:=heap_alloc_new w (.cells #[x] 55)
 have a2:=heap_alloc_new (w.alloc (.cells #[x] 55)) (.cells #[y] 55)
 have a3:=heap_alloc_new ((w.alloc (.cells #[x] 55)).alloc (.cells #[y] 55)) (.cells #[z] 3)
 rw[World.size_alloc]at a2 a3
 rw[World.size_alloc]at a3
 have b1:=(below_alloc1 (w.alloc (.cells #[x] 55)) (.cells #[y] 55)).block w.heap.size (by simp)
 have b2:=(below_alloc1 ((w.alloc (.cells #[x] 55)).alloc (.cells #[y] 55)) (.cells #[z] 3)).block
 exact⟨(b2 w.heap.size (by simp;omega)).trans (b1.trans a1),(b2 (w.heap.size+1) (by simp)).trans a2,a3⟩
theorem CB.c2 {b:Nat}{x y z:Value}{W:World}(h:CB b x y z W):W.cell? ⟨b,0,none⟩=some x:=cell_at h.h2 rfl
theorem CB.f2 {b:Nat}{x y z:Value}{W:World}(h:CB b x y z W):W.frozen? ⟨b,0,none⟩=false:=free_at h.h2
theorem CB.c3 {b:Nat}{x y z:Value}{W:World}(h:CB b x y z W):W.cell? ⟨b+1,0,none⟩=some y:=cell_at h.h3 rfl
theorem CB.f3 {b:Nat}{x y z:Value}{W:World}(h:CB b x y z W):W.frozen? ⟨b+1,0,none⟩=false:=free_at h.h3
theorem CB.c4 {b:Nat}{x y z:Value}{W:World}(h:CB b x y z W):W.cell? ⟨b+1+1,0,none⟩=some z:=cell_at h.h4 rfl
theorem CB.f4 {b:Nat}{x y z:Value}{W:World}(h:CB b x y z W):W.frozen? ⟨b+1+1,0,none⟩=false:=free_at h.h4
theorem CB.set {b:Nat}{x y z x' y':Value}{W:World}(h:CB b x y z W):CB b x' y' z ((W.setCell ⟨b,0,none⟩ x').setCell ⟨b+1,0,none⟩ y'):=
 ⟨heap_setO (heap_setC h.h2 x') y' (by omega),heap_setC (heap_setO h.h3 x' (by omega)) y',heap_setO (heap_setO h.h4 x' (by omega)) y' (by omega)⟩
theorem compare_i {w:World}(x y:Nat):Calls Tryz.prog 78 #[.int .i64 (x:Int),.int .i64 (y:Int)] w fun e w'=>e= .returned (.int .i64 (cmpN x y))∧w'=w:=by
 have h:=Tryz.cmp_Compare_int x y w
 have e:Lib.compareInt (x:Int) (y:Int)=cmpN x y:=by
  unfold Lib.compareInt
  rcases Nat.lt_trichotomy x y with h|h|h
  ·rw[cmpN_lt h,if_pos (by omega)]
  ·subst h;rw[cmpN_eq,if_neg (by omega),if_neg (by omega)]
  ·rw[cmpN_gt h,if_neg (by omega),if_pos (by omega)]
 rw[e]at h
 exact h
theorem RdN.setOther {W:World}{v:Value}{s:List Nat}{p:Addr}{x:Value}(h:RdN W v s) (hp:W.cell? p=some x) (hx:∀n:Nat,x≠L64 n) (y:Value):RdN (W.setCell p y) v s:=by
 obtain⟨a,c,h1,h2,h3,h4,h5⟩:=h
 refine⟨a,c,h1,h2,h3,h4,fun j u hj=>?_⟩
 obtain⟨g,off,e1,e2,e3⟩:=h5 j u hj
 refine⟨g,off,e1,e2,?_⟩
 rw[World.cell?_setCell_other _ _ _ _ (fun e=>?_)]
 ·exact e3
 ·rw[e,e3]at hp
  rw[List.getElem?_map]at hj
  cases hsj:s[j]? with
  |none=>rw[hsj]at hj;simp at hj
  |some n=>
   rw[hsj]at hj
   simp only[Option.map_some,Option.some.injEq]at hj
   exact hx n (by rw[hj];exact(Option.some.inj hp).symm)
set_option maxRecDepth 100000 in
set_option maxHeartbeats 2000000 in
theorem cmp_any {w:World}{v u:Value}{l m:List Nat}(hl:RdN w v l) (hm:RdN w u m) (hdl:Dig BB l) (hdm:Dig BB m) (h1:l.length≤100000) (h2:m.length≤100000):
 Calls Tryz.prog 102 #[v,u] w (fun e w'=>e= .returned (.int .i64 (cmpN (val BB l) (val BB m)))∧Below w.heap.size w w'):=by
 have lA:=digs_bound hdl h1 rfl
 have lB:=digs_bound hdm h2 rfl
 have HA:=Lib.hid (fun w' v (h:RdN w' v l)=>bare_num h hdl h1)
 have HB:=Lib.hid (fun w' v (h:RdN w' v m)=>bare_num h hdm h2)
 generalize val BB l=A at*
 generalize val BB m=B at*
 have dA:=dig_digs BB_two A
 have dB:=dig_digs BB_two B
 have eA:=val_digs BB_two A
 have eB:=val_digs BB_two B
 have HL:=Lib.hid (cmp_len BB_two (a:=A) (b:=B))
 generalize digs BB A=s at*
 generalize digs BB B=t at*
 obtain⟨av,cv,rfl,-⟩:=hl.view
 obtain⟨au,cu,rfl,-⟩:=hm.view
 have RL:=Lib.hid hl;have RM:=Lib.hid hm
 clear hl hm hdl hdm h1 h2
 refine(callsIn_wide (n:=6)).1 ?_
 refine callsIn_of_wp_marks Tryz.func102 rfl trivial ?_ rfl
 simp only[Tryz.ntmps102,List.size_toArray,List.length_cons,List.length_nil,Nat.reduceAdd,Nat.reduceSub,Array.replicate_succ,Array.replicate_zero,List.push_toArray,List.append_toArray,List.nil_append,List.cons_append]
 gi_wp2
 have hcb:=CB.new w (.slice av l.length cv) (.slice au m.length cu) (.int .i64 0)
 have hB0:Below w.heap.size w (((w.alloc (.cells #[.slice av l.length cv] 55)).alloc (.cells #[.slice au m.length cu] 55)).alloc (.cells #[.int .i64 0] 3)):=(((Below.refl _ w).alloc (Nat.le_refl _) _).alloc (by simp) _).alloc (by simp;omega) _
 generalize (((w.alloc (.cells #[.slice av l.length cv] 55)).alloc (.cells #[.slice au m.length cu] 55)).alloc (.cells #[.int .i64 0] 3))=W0 at hcb hB0⊢
 have c2:=hcb.c2;have c3:=hcb.c3
 have R1:=RL.out.below hB0.drew
 have hmo:Tryz.prog.follows .mixedOrders=true:=by kernel_rfl
 gi_region_with_o (first
  |(refine⟨trivial,?_⟩;gi_at_call 75;(with_reducible refine(callsIn_wide.2 (HA.out _ _ R1)).mono ?_);rintro e w1 ⟨v1,rfl,hr1,hb1⟩;clear R1;obtain⟨a1,k1,rfl,-⟩:=hr1.view;have R2:=(RM.out.below hB0.drew).below hb1;have cb1:=hcb.drew.below hb1;have c3':=cb1.c3)
  |(refine⟨trivial,?_⟩;gi_at_call 75;(with_reducible refine(callsIn_wide.2 (HB.out _ _ R2)).mono ?_);rintro e w2 ⟨v2,rfl,hr2,hb2⟩;clear R2;obtain⟨a2,k2,rfl,-⟩:=hr2.view;have cb2:=cb1.below hb2;have d2:=cb2.c2;have d3:=cb2.c3;have f2:=cb2.f2;have f3:=cb2.f3))
 all_goals
  have cb3:=cb2.set (x':= .slice a1 s.length k1) (y':= .slice a2 t.length k2)
  have B2:Below w.heap.size w ((w2.setCell ⟨w.heap.size,0,none⟩ (.slice a1 s.length k1)).setCell ⟨w.heap.size+1,0,none⟩ (.slice a2 t.length k2)):=by
   have h1:=hB0.drew.trans (hb1.mono hB0.drew.size)
   exact((h1.trans (hb2.mono h1.size)).setCell (p:=⟨w.heap.size,0,none⟩) (Nat.le_refl _) _).setCell (p:=⟨w.heap.size+1,0,none⟩) (Nat.le_succ _) _
  have RS:Hid (RdN ((w2.setCell ⟨w.heap.size,0,none⟩ (.slice a1 s.length k1)).setCell ⟨w.heap.size+1,0,none⟩ (.slice a2 t.length k2)) (.slice a1 s.length k1) s):=Lib.hid (((hr1.below hb2).setOther d2 (by simp) _).setOther (x:= .slice au m.length cu) (by rw[World.cell?_setCell_other _ _ _ _ (by simp)];exact d3) (by simp) _)
  have RT:Hid (RdN ((w2.setCell ⟨w.heap.size,0,none⟩ (.slice a1 s.length k1)).setCell ⟨w.heap.size+1,0,none⟩ (.slice a2 t.length k2)) (.slice a2 t.length k2) t):=Lib.hid ((hr2.setOther d2 (by simp) _).setOther (x:= .slice au m.length cu) (by rw[World.cell?_setCell_other _ _ _ _ (by simp)];exact d3) (by simp) _)
  generalize ((w2.setCell ⟨w.heap.size,0,none⟩ (.slice a1 s.length k1)).setCell ⟨w.heap.size+1,0,none⟩ (.slice a2 t.length k2))=W1 at*
  clear d2 d3 f2 f3 cb1 cb2 hcb c2 c3 c3' hr1 hr2 hb1 hb2 hB0
  have c2:=cb3.c2;have c3:=cb3.c3;have c4:=cb3.c4;have f4:=cb3.f4
  by_cases hlen:s.length=t.length
  ·have HLEN:=Lib.hid hlen
   rw[hlen]at c2 RS
   clear hlen
   gi_wp2_with (first
    |(refine⟨trivial,?_⟩;gi_at_call 78;(with_reducible refine(callsIn_wide.2 (compare_i _ _)).mono ?_);rw[HLEN.out,cmpN_eq];rintro e w4 ⟨rfl,rfl⟩)
    |(refine⟨trivial,?_⟩;gi_at_call 127;(refine(back_in Fence.wide _ trivial rfl _ _ _ _).mono ?_);rintro e w5 ⟨rfl,rfl⟩))
   have hb5:=below_alloc1 w4 (.cells #[.slice a1 t.length k1] 55)
   have hc5:=cell_at (j:=0) (heap_alloc_new w4 (.cells #[.slice a1 t.length k1] 55)) rfl
   have hlt5:w4.heap.size<(w4.alloc (.cells #[.slice a1 t.length k1] 55)).heap.size:=by simp
   have B5:=B2.trans (hb5.mono B2.size)
   have RS5:=Lib.hid (RS.out.below hb5);have RT5:=Lib.hid (RT.out.below hb5)
   have cb5:=cb3.below hb5
   generalize hW5:(w4.alloc (.cells #[.slice a1 t.length k1] 55))=W5 at*
   clear c2 c3 c4 f4 cb3 hW5 RS RT hb5 B2
   have hlt:=(Array.getElem?_eq_some_iff.1 cb5.h4).1
   refine wpIn_rangeFunc_ownG rfl (by omega) (gf:=140) (lb:= #[.pointer (some ⟨w4.heap.size,0,none⟩)]) rfl trivial (enters_of Tryz.func140 (by kernel_rfl) rfl)
    (back_stops Fence.wide _ trivial rfl (by omega) w4.heap.size _ s lA W5 hlt5 hc5 RS5.out) belowK_t (belowK_b (Nat.le_refl _)) (Below.refl _ _) (fun _=>rfl)
    (fun pre W=>(∀p∈pre,s.getD p.1 0=t.getD p.1 0)∧Below W5.heap.size W5 W)
    (fun c pre W=>(c= .ret∧∃ini last,pre=ini++[last]∧(∀p∈ini,s.getD p.1 0=t.getD p.1 0)∧s.getD last.1 0≠t.getD last.1 0∧W.cell? ⟨w.heap.size+1+1,0,none⟩=some (.int .i64 (cmpN (s.getD last.1 0) (t.getD last.1 0))))∧Below w.heap.size w W)
    (OwnFrom.and (fun s A B row hs hg hr=>hs) (ownFrom_below (Nat.le_refl _) (Nat.le_refl _)))
    (fun c=>OwnFrom.and (Own.from (fun s A B row hs hg hr=>by obtain⟨hc,ini,last,e1,e2,e3,e4⟩:=hs;exact⟨hc,ini,last,e1,e2,e3,cell_kept e4 hg hr⟩) _) (ownFrom_below (Nat.le_refl _) B5.size))
    ⟨fun p hp=>by simp at hp,Below.refl _ _⟩
    (fun x=>{tmps:= #[.slice av l.length cv,.slice au m.length cu,.pointer (some ⟨w.heap.size,0,none⟩),.pointer (some ⟨w.heap.size+1,0,none⟩),.pointer (some ⟨w.heap.size+1+1,0,none⟩),.int .i64 0,.int .i64 (x.1:Int),undef,
      .slice av l.length cv,.slice a1 t.length k1,.slice au m.length cu,.slice a2 t.length k2,.slice a1 t.length k1,.int .i64 t.length,.slice a2 t.length k2,.int .i64 t.length,.int .i64 0,.int .i64 0,.bool false,undef,.slice a1 t.length k1,
      .func (.func 140) #[] #[.pointer (some ⟨w4.heap.size,0,none⟩)],.int .i64 (x.1:Int),.int .u64 ((s[x.1]?.getD 0:Nat):Int),undef,undef,undef,undef,undef,undef,undef,undef,undef,undef,undef,undef],defers:=[]}) ?assign ?body ?done ?stop
   case assign=>
    intro l x W K hK
    gi_wp2
    exact hK
   case body=>
    rintro l0 pre x W ⟨hpre,hB⟩ _
    have cb:=cb5.below hB
    have c2:=cb.c2;have c3:=cb.c3;have c4:=cb.c4;have f4:=cb.f4
    obtain⟨j,hj⟩:=x
    have hjt:j<t.length:=by rw[←HLEN.out];exact hj
    obtain⟨a',c',e1,-,-,-,hcx⟩:=(RS5.out.below hB).view
    injection e1 with e1 e2 e3;subst e1 e3
    obtain⟨g,of,rfl,hg,hcx⟩:=hcx j hj
    obtain⟨a',c',f1,-,-,-,hcy⟩:=(RT5.out.below hB).view
    injection f1 with f1 f2 f3;subst f1 f3
    obtain⟨g',of',rfl,hg',hcy⟩:=hcy j hjt
    clear e2 f2
    have es:s.getD j 0=s[j]?.getD 0:=List.getD_eq_getElem?_getD
    have et:t.getD j 0=t[j]?.getD 0:=List.getD_eq_getElem?_getD
    dsimp only
    generalize s[j]?.getD 0=xs at*
    generalize t[j]?.getD 0=ys at*
    have ES:=Lib.hid es;have ET:=Lib.hid et;clear es et
    have hn0:∀nq,(W.drewN nq).cell? ⟨g,of+j,none⟩=some (L64 xs):=fun _=>hcx
    by_cases hxy:xs=ys
    ·subst hxy
     gi_wp2
     refine wpIn_region_quiet_round rfl (by kernel_rfl) (by kernel_rfl) (by kernel_rfl) ?_
     repeat
      refine wpQuietIn_step (asked_wide _ _ _ _) (fun K hK=>?_)
      go_simp
      first
       |(refine hK _ ?_;clear hK K)
       |(apply Exists.intro
         refine⟨fun _=>?_,hK _ ?_⟩
         (gi_at_call 128;refine CallsIn.quiet_of_same (callsIn_wide.2 (compare_u _ _)))
         clear hK K)
     refine wpQuietIn_nil ?_
     rintro _ ⟨nq,rfl⟩
     rw[cmpN_eq]
     gi_wp2
     exact⟨(⟨Nat.le_refl _,fun _ _ h _=>h⟩:KeepsOthers W (W.drewN nq)).from _,below_drewN (Below.refl _ _) nq,fun p hp=>(List.mem_append.1 hp).elim (hpre p) (fun e=>by
      simp only[List.mem_singleton]at e
      subst e
      show s.getD j 0=t.getD j 0
      rw[ES.out,ET.out]),below_drewN hB nq⟩
    ·have cz:(cmpN xs ys !=0)=true:=by
      rcases Nat.lt_or_gt_of_ne hxy with h|h
      ·rw[cmpN_lt h];rfl
      ·rw[cmpN_gt h];rfl
     gi_wp2
     refine wpIn_region_quiet_round rfl (by kernel_rfl) (by kernel_rfl) (by kernel_rfl) ?_
     repeat
      refine wpQuietIn_step (asked_wide _ _ _ _) (fun K hK=>?_)
      go_simp
      first
       |(refine hK _ ?_;clear hK K)
       |(apply Exists.intro
         refine⟨fun _=>?_,hK _ ?_⟩
         (gi_at_call 128;refine CallsIn.quiet_of_same (callsIn_wide.2 (compare_u _ _)))
         clear hK K)
     refine wpQuietIn_nil ?_
     rintro _ ⟨nq,rfl⟩
     have c4':(W.drewN nq).cell? ⟨w.heap.size+1+1,0,none⟩=some (.int .i64 0):=c4
     have f4':(W.drewN nq).frozen? ⟨w.heap.size+1+1,0,none⟩=false:=f4
     have kd:KeepsOthers W (W.drewN nq):=⟨Nat.le_refl _,fun _ _ h _=>h⟩
     have Bd:Below w.heap.size w (W.drewN nq):=below_drewN (B5.trans (hB.mono B5.size)) nq
     have hne:s.getD j 0≠t.getD j 0:=by rw[ES.out,ET.out];exact hxy
     have hcc:cmpN xs ys=cmpN (s.getD j 0) (t.getD j 0):=by rw[ES.out,ET.out]
     have HNE:=Lib.hid hne;have HCC:=Lib.hid hcc;clear hne hcc
     generalize W.drewN nq=Wd at*
     gi_wp2
     exact⟨(kd.trans (KeepsOthers.setCell _ _ _)).from _,⟨rfl,pre,⟨j,hj⟩,rfl,hpre,HNE.out,by rw[←HCC.out];exact World.cell?_setCell_same' _ _ _ (by rw[c4'];rfl)⟩,Bd.setCell (p:=⟨w.heap.size+1+1,0,none⟩) (by simp;omega) _⟩
   case done=>
    rintro D ys W hD hys ⟨hall,hB⟩ hK
    have E:cmpN A B=0:=by
     rw[←eA,←eB]
     refine cmp_same HLEN.out (fun i hi=>?_)
     have hm:=came_mem (k:=s.length) hi (by omega)
     rw[←hys]at hm
     obtain⟨p,hp,rfl⟩:=List.mem_map.1 hm
     exact hall p hp
    have HE:=Lib.hid E;clear E
    have cb:=cb5.below hB
    have c4:=cb.c4;have f4:=cb.f4
    have Bw:=B5.trans (hB.mono B5.size)
    gi_wp2
    have hK':=(KeepsOthers.setCell W ⟨w.heap.size+1+1,0,none⟩ (.int .i64 0)).same D _ hK rfl
    refine⟨by simp,.inl ⟨_,_,rfl,run_takeDeferred hK',?_⟩⟩
    have hc5:=cell_kept (World.cell?_setCell_same' W ⟨w.heap.size+1+1,0,none⟩ (.int .i64 0) (by rw[c4];rfl)) (grownBy_putObj' _ D (.deferred none)) (fun r e=>by cases e;exact⟨_,hK',rfl⟩)
    refine⟨.int .i64 0,?_,by rw[HE.out],(Bw.setCell (p:=⟨w.heap.size+1+1,0,none⟩) (by simp;omega) _).trans (belowK_b (w:=w) (Nat.le_refl _) _ D _ _ (Nat.le_trans B5.size hD) hK' rfl rfl)⟩
    simp[results,Tryz.f102,go_sem,hc5]
   case stop=>
    rintro D c pre W hD ⟨k,hk,hpre⟩ ⟨⟨rfl,ini,last,e1,e2,e3,hcr⟩,hB⟩ hK
    have E:cmpN (s.getD last.1 0) (t.getD last.1 0)=cmpN A B:=by
     rw[←eA,←eB]
     refine cmp_top dA dB HLEN.out last.2 (fun i hi=>?_) e3
     by_cases his:i<s.length
     ·obtain⟨k',rfl⟩:∃k',k=k'+1:=by
       cases k with
       |zero=>
        have:=congrArg List.length hpre
        rw[e1]at this;simp[came]at this
       |succ k'=>exact⟨k',rfl⟩
      rw[e1,List.map_append,came_succ]at hpre
      obtain⟨h1,h2⟩:=List.append_inj' hpre rfl
      have h2:last.1=s.length-1-k':=by simpa using h2
      have hm:=came_mem (n:=s.length) (k:=k') his (by omega)
      rw[←h1]at hm
      obtain⟨p,hp,rfl⟩:=List.mem_map.1 hm
      exact e2 p hp
     ·rw[List.getD_eq_getElem?_getD,List.getD_eq_getElem?_getD,List.getElem?_eq_none (by omega),List.getElem?_eq_none (by have:=HLEN.out;omega)]
    rw[E]at hcr
    have HE:=Lib.hid E;clear E
    gi_wp2
    refine⟨by simp,.inl ⟨_,_,rfl,run_takeDeferred hK,?_⟩⟩
    have hc5:=cell_kept hcr (grownBy_putObj' _ D (.deferred none)) (fun r e=>by cases e;exact⟨_,hK,rfl⟩)
    refine⟨.int .i64 (cmpN A B),?_,rfl,hB.trans (belowK_b (w:=w) (Nat.le_refl _) W D _ _ (Nat.le_trans B5.size hD) hK rfl rfl)⟩
    simp[results,Tryz.f102,go_sem,hc5]
  ·have hc:=HL.out hlen
   have hc0:(cmpN A B !=0)=true:=by
    rw[←hc]
    rcases Nat.lt_or_gt_of_ne hlen with h|h
    ·rw[cmpN_lt h];rfl
    ·rw[cmpN_gt h];rfl
   gi_wp2_with (refine⟨trivial,?_⟩;gi_at_call 78;(with_reducible refine(callsIn_wide.2 (compare_i _ _)).mono ?_);rw[hc];rintro e w4 ⟨rfl,rfl⟩)
   have hc5:(w4.setCell ⟨w.heap.size+1+1,0,none⟩ (.int .i64 (cmpN A B))).cell? ⟨w.heap.size+1+1,0,none⟩=some (.int .i64 (cmpN A B)):=World.cell?_setCell_same' _ _ _ (by rw[c4];rfl)
   exact⟨.int .i64 (cmpN A B),by simp[results,Tryz.f102,go_sem,hc5],rfl,B2.setCell (p:=⟨w.heap.size+1+1,0,none⟩) (by simp;omega) _⟩
end Go.Proofs.YtffaefjkpipjnaaGreatDoor
namespace Go.Proofs.YtffaefjkpipjnaaGreatDoor
set_option maxRecDepth 100000
open Go.RowKit Go.ChangeShapes Go.WideShapes
def Num (w:World) (v:Value) (n:Nat):Prop:=∃l,RdN w v l∧Dig BB l∧l.length≤40000∧val BB l=n
theorem Num.below {w w':World}{v:Value}{n:Nat}(h:Num w v n) (hb:Below w.heap.size w w'):Num w' v n:=by
 obtain⟨l,h1,h2⟩:=h;exact⟨l,h1.below hb,h2⟩
theorem RdN.num {w:World}{v:Value}{n:Nat}(h:RdN w v (digs BB n)) (hn:bitN n≤2560000):Num w v n:=
 ⟨_,h,dig_digs BB_two n,digs_short (k:=40000) (by omega),val_digs BB_two n⟩
theorem RdN.numl {w:World}{v:Value}{l:List Nat}(h:RdN w v l) (d:Dig BB l) (hl:l.length≤40000):Num w v (val BB l):=⟨l,h,d,hl,rfl⟩
theorem RdN.num1 {w:World}{v:Value}{n:Nat}(h:RdN w v [n]) (hn:n<BB):Num w v n:=⟨[n],h,Dig.cons hn (Dig.nil _),by simp,val_one _ n⟩
theorem Num.nil (w:World):Num w (.slice none 0 0) 0:=⟨[],RdN.nil w,Dig.nil _,by simp,rfl⟩
theorem RdN.rnone {w:World}{v:Value}(h:RdN w v (digs BB 0)):∃a k,v= .slice a 0 k:=by
 rw[digs_zero]at h
 obtain⟨a,k,h1,-⟩:=h.view
 exact⟨a,k,h1⟩
theorem Num.bound {w:World}{v:Value}{n:Nat}(h:Num w v n):bitN n≤2560000:=by
 obtain⟨l,-,d,hl,rfl⟩:=h
 exact val_bits d hl
theorem eq_zero_of_bitN {n:Nat}(h:bitN n=0):n=0:=by
 have:=bitN_lt n
 rw[h]at this;omega
def OneZ (w:World) (n:Nat) (e:Ending) (w':World):Prop:=∃v,e= .returned (.tuple #[v,.int .i64 0])∧RdN w' v (digs BB n)∧Below w.heap.size w w'
theorem add_n {w:World}{v u:Value}{A B C:Nat}(h:Num w v A) (k:Num w u B) (e:A+B=C):Calls Tryz.prog 108 #[v,u] w (One w (digs BB C)):=by
 obtain⟨l,h1,h2,h3,rfl⟩:=h
 obtain⟨m,k1,k2,k3,rfl⟩:=k
 subst e
 exact add_any h1 k1 h2 k2 (by omega) (by omega)
theorem mul_n {w:World}{v u:Value}{A B C:Nat}(h:Num w v A) (k:Num w u B) (e:A*B=C) (hs:bitN A+bitN B≤65536):Calls Tryz.prog 96 #[v,u] w (OneZ w C):=by
 obtain⟨l,h1,h2,h3,rfl⟩:=h
 obtain⟨m,k1,k2,k3,rfl⟩:=k
 subst e
 have:=mul_any h1 k1 h2 k2 (by omega) (by omega)
 rw[mulR_small hs]at this
 exact this
theorem cmp_n {w:World}{v u:Value}{A B:Nat}{c:Int}(h:Num w v A) (k:Num w u B) (e:cmpN A B=c):Calls Tryz.prog 102 #[v,u] w (fun e w'=>e= .returned (.int .i64 c)∧Below w.heap.size w w'):=by
 obtain⟨l,h1,h2,h3,rfl⟩:=h
 obtain⟨m,k1,k2,k3,rfl⟩:=k
 subst e
 exact cmp_any h1 k1 h2 k2 (by omega) (by omega)
theorem bits_n {w:World}{v:Value}{A b:Nat}(h:Num w v A) (e:bitN A=b):Calls Tryz.prog 48 #[v] w (fun e w'=>e= .returned (.int .i64 (b:Int))∧Below w.heap.size w w'):=by
 obtain⟨l,h1,h2,h3,rfl⟩:=h
 subst e
 exact bits_num h1 h2 (by omega)
theorem bare_n {w:World}{v:Value}{A:Nat}(h:Num w v A):Calls Tryz.prog 75 #[v] w (One w (digs BB A)):=by
 obtain⟨l,h1,h2,h3,rfl⟩:=h
 exact bare_num h1 h2 (by omega)
end Go.Proofs.YtffaefjkpipjnaaGreatDoor
