/- quo.long by its contract: the walk. Conditions: the lists are short, the limbs are limbs, the divisor has two limbs at least and is bare, the dividend isn't shorter. -/
import Derived.Test.YtffaefjkpipjnaaGreatDoorPkC10
import Derived.Deep.CutBlock
import Derived.Test.YtffaefjkpipjnaaGreatDoorPkC06
namespace Go.Proofs.YtffaefjkpipjnaaGreatDoor
set_option linter.unusedVariables false
set_option linter.unusedSimpArgs false
set_option maxRecDepth 100000
open Go.RowKit
set_option maxRecDepth 100000 in
set_option maxHeartbeats 1000000 in
theorem long_any {w:World}{v u:Value}{l m:List Nat}(hl:RdN w v l) (hm:RdN w u m) (hdl:Dig BB l) (hdm:Dig BB m) (h1:l.length≤50000) (h2:2≤m.length) (h3:m.length≤l.length) (h4:m.getD (m.length-1) 0≠0) (hT:Tab w):
 Calls Tryz.prog 125 #[v,u] w (TwoN w (val BB l/val BB m) (val BB l%val BB m)):=by
 obtain⟨a,c,rfl,hac,hc,-,-⟩:=hl.view
 obtain⟨b,d,rfl,hbc,hd,-,hcb⟩:=hm.view
 obtain⟨i0,hi,hz0,hz1,hz2⟩:=info_parts infoU
 have hb64:=hdm.getD BB_pos (m.length-1)
 obtain⟨g,of,rfl,hg,hcell⟩:=hcb (m.length-1) (by omega)
 rw[←List.getD_eq_getElem?_getD]at hcell
 have HL:=Lib.hid hl;have HM:=Lib.hid hm;clear hl hm hcb
 generalize hbt:m.getD (m.length-1) 0=bt at*
 have HBT:=Lib.hid hbt
 have bt64:bt<18446744073709551616:=hb64
 obtain⟨s,hs⟩:∃s,64-bitN bt=s:=⟨_,rfl⟩
 have HLZ:=Lib.hid (fun w=>lz_any (w:=w) bt64)
 rw[hs]at HLZ
 obtain⟨hs63,hY1,hY2⟩:=shift_top h4 bt64 hs
 have HY:=Lib.hid (And.intro hY1 hY2)
 clear hs hbt hb64 hY1 hY2
 have HLe:=Lib.hid (fun w v (h:RdN w v l)=>left_any (s:=s) h hdl (by omega) hs63)
 have HRi:=Lib.hid (fun w v (h:RdN w v m)=>left_any (s:=s) h hdm (by omega) hs63)
 go_enter Tryz.func125,Tryz.ntmps125
 go_upto_region 3 with(first
  |(go_at_call 135;(with_reducible refine(HLZ.out _).mono ?_);rintro e w1 ⟨rfl,rfl⟩)
  |fail)
 go_cut [8,9] (fun u v wx=>∃BU BV U V,u= .slice (some ⟨BU,0,none⟩) (l.length+1) (l.length+1)∧v= .slice (some ⟨BV,0,none⟩) m.length (m.length+1)∧Shifted w1 l m s BU BV U V wx)
 case first=>
  have hmI:IntKind.i64.wrap (m.length:Int)=(m.length:Int):=by rw[IntKind.wrap_i64];omega
  obtain⟨bv,hbv,hbv1⟩:∃n:Nat,((m.length:Int)+1)=(n:Int)∧m.length+1=n:=⟨m.length+1,by omega,rfl⟩
  have HLd:Hid (RdN w1.drew _ l):=Lib.hid (HL.out.below (below_drewN (Below.refl _ _) 1))
  have HMd:Hid (RdN w1.drew _ m):=Lib.hid (HM.out.below (below_drewN (Below.refl _ _) 1))
  go_region_with (first
   |(go_at_call 136;((with_reducible refine(HLe.out _ _ HLd.out).mono ?_));rintro e w2 ⟨rfl,U,hU⟩;have HU:=Lib.hid hU;clear hU)
   |(go_at_call 136;((with_reducible refine(HRi.out _ _ (HMd.out.below HU.out.2.2.2.2)).mono ?_));rintro e w3 ⟨rfl,V,hV⟩;have HV:=Lib.hid hV;clear hV))
  all_goals
   go_wp2_with fail
   go_meet
   rw[←hbv1]
   exact⟨_,_,_,_,rfl,rfl,.mk1 (w1:=w2) (show _∧_∧_∧_∧Below w1.heap.size w1 w2 from⟨HU.out.1,HU.out.2.1,HU.out.2.2.1,HU.out.2.2.2.1,of_drew HU.out.2.2.2.2⟩) HV.out⟩
 case rest=>
  obtain⟨BU,BV,U,V,rfl,rfl,hS⟩:=hcut
  obtain⟨qn,hqI,hqn⟩:∃n:Nat,((l.length:Int)-(m.length:Int)+1)=(n:Int)∧l.length-m.length+1=n:=⟨l.length-m.length+1,by omega,rfl⟩
  have HS:=Lib.hid hS
  go_wp2_with (at_make;go_loud (refine wpList_make_full _ rfl (.tmp 37) (.tmp 37) 55 rfl wc.heap.size 22 i0 (.int .u64 0) 1 Tryz.underlying55 hi hz0 hz1 .i64 .i64 qn qn qn ?_ ?_ rfl rfl ?_ ?_ ?_ ?_;(any_goals (first|rfl|(rw[hz2];omega)|(unfold maxLen;omega)|(with_reducible exact Nat.le_refl _)));intro w0 hown0 hgrow0))
  rw[made_zero]at hown0
  obtain⟨eV,hDlt,hVtop⟩:=hS.divisor hdm h2 (by rw[HBT.out];exact HY.out.1) (by rw[HBT.out];exact HY.out.2)
  have hst:=hS.start hdl h2 h3 (by rw[HBT.out];exact h4)
  have hV1len:(V.take m.length).length=m.length:=by rw[List.length_take,hS.vlen];omega
  have hV1d:=hS.vdig.take m.length
  have hVtop1:9223372036854775808≤(V.take m.length).getD (m.length-1) 0:=by rw[getD_take_lt (by omega)];exact hVtop
  have rdV:=rd_part hS.vown 0 m.length (m.length+1) (by omega) (by omega) (by unfold maxLen;omega)
  rw[List.drop_zero]at rdV
  have hcs:w1.heap.size≤wc.heap.size:=hS.below.size
  have hFm:Fr (fun _=>False) wc w0:=(Fr.refl _ _).grown hgrow0 (by simp)
  have HO:=Lib.hid (show OutRel w1 w0 BU wc.heap.size (l.length+1) (val BB l*2^s) (val BB m*2^s) m.length qn qn U (List.replicate qn 0) w0 from
   ⟨by rw[←hqn];exact hst,own_fr_at hS.uown hFm (fun h=>h),own_base hown0 hcs,.refl _ _⟩)
  have HRV:=Lib.hid (rdV.keep hFm (fun _ _ h=>h))
  have HFin:=Lib.hid (fun U Q=>LongRel.fin (A:=val BB l) (B:=val BB m) (n:=m.length) (m:=qn) (s:=s) (U:=U) (Q:=Q))
  have hne:=hS.ne;have hbul:=hS.bul;have hbvl:=hS.bvl
  have hbu:=hS.bu
  have HBel:=Lib.hid (hS.below.trans ((hFm.below hcs (fun _ _ h=>h))))
  have HT1:=Lib.hid hT
  have hw0s:wc.heap.size<w0.heap.size:=own_lt hown0
  generalize List.take m.length V=V1 at*
  clear HLZ HLe HRi HL HM hcell HY HBT hst hS HS hVtop hown0 hgrow0 rdV hFm hT
  clear hdl hdm h4 bt64 hac hbc hc hd hg
  generalize val BB l=A at*
  generalize val BB m=B at*
  generalize m.length=n at*
  generalize l.length=ln at*
  obtain⟨lu,hluI,hlu⟩:∃x:Nat,((ln:Int)+1)=(x:Int)∧ln+1=x:=⟨ln+1,by omega,rfl⟩
  obtain⟨vc,hvcI,hvc⟩:∃x:Nat,((n:Int)+1)=(x:Int)∧n+1=x:=⟨n+1,by omega,rfl⟩
  simp only[hlu,hvc]at HO HRV⊢
  have HLU:=Lib.hid hlu
  have HVC:=Lib.hid hvc
  have HD:=Lib.hid hDlt;have HeV:=Lib.hid eV
  clear hDlt eV
  generalize wc.heap.size=BQ at*
  go_loopw [11] (fun i wr=>∃(p:Nat) (jI:Int) (U Q:List Nat),i= .int .i64 jI∧jI+1=p∧OutRel w1 w0 BU BQ lu (A*2^s) (B*2^s) n qn p U Q wr) (fun i _=>((intOf i)+1).toNat)
  case atStart=>exact⟨qn,(qn:Int)-1,_,_,rfl,by omega,HO.out⟩
  case round=>
   obtain⟨p,jI,U,Q,rfl,hjI,hR⟩:=hrel
   have HR:=Lib.hid hR
   have hp:=hR.r.le
   have hQl:=hR.r.qlen
   have hUl:=hR.r.ulen
   cases p with
   |zero=>
    obtain rfl:jI= -1:=by omega
    have HU:=Lib.hid (show RdN _ _ U from Rd.of_own hR.uo (fun _ _=>trivial))
    have HQ:=Lib.hid (show RdN _ _ Q from Rd.of_own hR.qo (fun _ _=>trivial))
    have HBW:=Lib.hid (HBel.out.trans (hR.fr.below HBel.out.size (fun k hk hs=>by rcases hs with hs|hs<;>omega)))
    have HTW:=Lib.hid (HT1.out.below HBW.out)
    have HShr:=Lib.hid (shr_any (i:=(s:Int)) HU.out hR.r.udig (by omega) (by omega) (by omega) HTW.out)
    have hQd:=hR.r.qdig
    have HE:=Lib.hid (HFin.out U Q hR.r)
    clear hR
    go_wp2_with (first
     |(go_at_call 116;(with_reducible refine HShr.out.mono ?_);rintro e w5 ⟨v5,rfl,hr5,hb5⟩)
     |(go_at_call 75;(with_reducible refine(bare_any (HQ.out.below hb5) ?_).mono ?_);(focus omega);rintro e w6 ⟨v6,rfl,hr6,hb6⟩))
    go_ret2
    rw[HE.out.1]at hr6
    rw[Int.toNat_natCast,HE.out.2]at hr5
    exact⟨_,_,rfl,hr6,hr5.below hb6,(HBW.out.trans (hb5.mono HBW.out.size)).trans (hb6.mono (Nat.le_trans HBW.out.size hb5.size))⟩
   |succ j=>
    obtain rfl:jI=j:=by omega
    have hF:=hR.fr
    have HF:=Lib.hid hF
    obtain⟨jn,hjnI,hjn⟩:∃x:Nat,((j:Int)+(n:Int)+1)=(x:Int)∧j+n+1=x:=⟨j+n+1,by omega,rfl⟩
    have hjd:jn-j=vc:=by omega
    have RV:=Lib.hid (HRV.out.keep hF (fun g hg hs=>by rcases hs with hs|hs<;>omega))
    have RP:Rd (fun g=>g=BU) wr.drew (.slice (some ⟨BU,j,none⟩) vc (lu-j)) ((part U j n).map L64):=by
     have h:=rd_part hR.drew.uo j vc (lu-j) (by omega) (by omega) (by unfold maxLen;omega)
     unfold part
     rw[HVC.out]
     exact h
    have RP:=Lib.hid (show RdN wr.drew _ (part U j n)from RP.mono (N':=fun _=>True) (fun _ _ _=>trivial))
    have HNV:=Lib.hid (show∀g,g=BV→g≠BU from fun g h e=>hne (e.symm.trans h))
    have HNS:=Lib.hid (show∀g,g=BV→¬(g=BU∨g=BQ)from fun g hg hs=>by rcases hs with hs|hs<;>omega)
    have HRd:=Lib.hid hR.drew
    have hul:=hR.r.ulen
    have HTk:=Lib.hid (fun w v q (how:w.ownsRow w1.heap.size 22 1 (.slice (some ⟨BU,0,none⟩) lu lu) lu (U.map L64)) (hr:Rd (fun g=>g≠BU) w v (V1.map L64)) (hq:q<BB)=>
     take_any (C:=lu-j) how hr (off:=j) (by omega) (by omega) (by omega) (by omega) hV1d hR.r.udig hq)
    have HPk:=Lib.hid (fun w v X (how:w.ownsRow w1.heap.size 22 1 (.slice (some ⟨BU,0,none⟩) lu lu) lu (X.map L64)) (hr:Rd (fun g=>g≠BU) w v (V1.map L64)) (hx:X.length=lu) (hd:Dig BB X)=>
     put_any (C:=lu-j) how hr (off:=j) (by omega) (by omega) (by omega) hx hV1d hd)
    rw[hV1len,HVC.out]at HTk HPk
    have hc1:=rd_cell RV.out (j:=n-1) (by omega)
    have hc2:=rd_cell RV.out (j:=n-2) (by omega)
    rw[Nat.zero_add]at hc1 hc2
    have hb1:=hV1d.getD BB_pos (n-1)
    have hb2:=hV1d.getD BB_pos (n-2)
    have hplen:(part U j n).length=n+1:=part_len (by omega)
    have hplt:=hR.r.part_lt HD.out
    have htop:=top_le hplen hV1len (by omega) hV1d (by rw[HeV.out];exact hplt)
    have hpd:=part_dig hR.r.udig j n
    have HG:=Lib.hid (fun w v (h:RdN w v (part U j n))=>guess_any (top:=V1.getD (n-1) 0) (next:=V1.getD (n-2) 0) h hpd (by omega) (by omega) (by omega) hb1 hb2 (by rw[hplen,Nat.add_sub_cancel];exact htop))
    have HUp:=Lib.hid (fun g=>guess_up2 (P:=part U j n) (V:=V1) (n:=n) (g:=g) h2 hplen hV1len hpd (by rw[HeV.out];exact hplt))
    have HJN:=Lib.hid hjn
    have hj0:j<jn:=by omega
    have hjl:jn≤lu:=by omega
    clear hjn
    clear hR hplt htop hF
    generalize V1.getD (n-1) 0=top at*
    generalize V1.getD (n-2) 0=next at*
    obtain⟨n1,hn1I,hn1⟩:∃x:Nat,(n:Int)-1=(x:Int)∧n-1=x:=⟨n-1,by omega,rfl⟩
    obtain⟨n2,hn2I,hn2⟩:∃x:Nat,(n:Int)-2=(x:Int)∧n-2=x:=⟨n-2,by omega,rfl⟩
    have hn1l:n1<n:=by omega
    have hn2l:n2<n:=by omega
    have hnW1:IntKind.i64.wrap (n1:Int)=(n1:Int):=by rw[IntKind.wrap_i64];omega
    have hnW2:IntKind.i64.wrap (n2:Int)=(n2:Int):=by rw[IntKind.wrap_i64];omega
    rw[hn1]at hc1
    rw[hn2]at hc2
    clear hn1 hn2
    go_wp2
    go_still_tail 11,(by kernel_rfl)
    change wpList _ _ _ _ _ wr.drew
    clear hc1 hc2
    have hRs:=HRd.out.fr.size
    have HW2:=Lib.hid (show Below wr.heap.size wr wr.drew from below_drewN (Below.refl _ _) 1)
    generalize wr.drew=w2 at*
    go_wp2_with (first
     |(go_at_call 137;(with_reducible refine(HG.out _ _ RP.out).mono ?_);rintro e w3 ⟨gd,rfl,hgd,hb3⟩;have HGD:=Lib.hid hgd;have hg64:=hgd.1;have UO3:=Lib.hid (own_below HRd.out.uo hb3);have RV3:=Lib.hid ((HRV.out.keep HRd.out.fr HNS.out).below hb3);clear hgd)
     |(go_at_call 138;(with_reducible refine(HTk.out _ _ _ UO3.out (RV3.out.mono (fun g _ h=>HNV.out g h)) hg64).mono ?_);rintro e w4 ⟨c,rfl,hte⟩;have HTE:=Lib.hid hte;clear hte))
    have hup:=HUp.out _ HGD.out
    rw[HeV.out]at hup
    obtain⟨X0,hX0⟩:=HR.out.r|>fun hr=>PutIn.first hr HD.out hV1len HeV.out hup HTE.out
    have HX0:=Lib.hid hX0
    have HBB:=Lib.hid (HW2.out.trans (hb3.mono HW2.out.size))
    clear hup hX0 HG HUp RP HTk RV HRd HGD UO3
    go_loopw [13,14] (fun dv wv wr'=>∃(q:Nat) (c:Bool) (X:List Nat),dv=L64 q∧wv= .bool c∧q<BB∧PutIn w3 BU lu w1.heap.size (B*2^s) (val BB U) j n U q c X wr') (fun dv _ _=>(intOf dv).toNat)
    case atStart=>exact⟨gd,c,X0,rfl,rfl,hg64,HX0.out⟩
    case round=>
     obtain⟨q,c,X,rfl,rfl,hq,hP⟩:=hrel
     have HP:=Lib.hid hP
     have hq64:q<18446744073709551616:=hq
     cases c with
     |true=>
      have RV4:=Lib.hid (RV3.out.keep hP.o.fr HNV.out)
      have hXl:=hP.o.len
      have hXd:=hP.o.dig
      have HPk2:=Lib.hid (HPk.out _ _ X hP.o.own (RV4.out.mono (fun g _ h=>HNV.out g h)) (by omega) hXd)
      have hq0:=hP.pos (by omega)
      clear hP hXd
      obtain⟨q',hq1,hqI⟩:∃q':Nat,q-1=q'∧IntKind.u64.wrap ((q:Int)-1)=(q':Int):=⟨q-1,rfl,by rw[IntKind.wrap_u64];omega⟩
      have HQ1:=Lib.hid hq1
      have HQ2:=Lib.hid (show q'<BB∧q'<q from⟨by omega,by omega⟩)
      clear hq1
      go_wp2_with (go_at_call 139;(with_reducible refine HPk2.out.mono ?_);rintro e w5 ⟨c2,rfl,hpe⟩;have HPE:=Lib.hid hpe;clear hpe)
      go_round
      case rel=>
       obtain⟨-,X',hX'⟩:=HP.out.back (by omega) hV1len HeV.out HPE.out
       rw[HQ1.out]at hX'
       exact⟨q',!c2,X',rfl,rfl,HQ2.out.1,hX'⟩
      case measure=>simp[intOf];have:=HQ2.out.2;omega
     |false=>
      have QO:=own_fr_at (own_below HR.out.qo HBB.out) hP.o.fr (fun h=>by omega)
      have hca:=QO.cellAt j (by omega)
      rw[List.getElem?_map,List.getElem?_eq_getElem (by omega),Option.map_some,←getD_lt]at hca
      have hfr:=QO.frozenAt j
      have hjq:j<qn:=by omega
      have HN:=Lib.hid (HR.out.next HBB.out hP hq HD.out (by omega))
      clear hP QO
      generalize Q.getD j 0=o at*
      go_wp2
      go_round
      case rel=>exact⟨j,_,_,_,rfl,by omega,HN.out⟩
      case measure=>simp[intOf]
end Go.Proofs.YtffaefjkpipjnaaGreatDoor

namespace Go.Proofs.YtffaefjkpipjnaaGreatDoor
set_option maxRecDepth 100000
open Go.RowKit
def divR (A B:Nat):Nat×Nat×Int:=if B=0 then(0,0,1)else(A/B,A%B,0)
def TwoE (w:World) (r:Nat×Nat×Int) (e:Ending) (w':World):Prop:=
 ∃v u,e= .returned (.tuple #[v,u,.int .i64 r.2.2])∧RdN w' v (digs BB r.1)∧RdN w' u (digs BB r.2.1)∧Below w.heap.size w w'
theorem digs_one {B:Nat}(h:(digs BB B).length=1):digs BB B=[B]:=by
 obtain⟨x,hx⟩:=List.length_eq_one_iff.1 h
 have e:=val_digs BB_two B
 rw[hx,val_one]at e
 rw[hx,e]
theorem digs_top {B:Nat}(h:B≠0):(digs BB B).getD ((digs BB B).length-1) 0≠0:=by
 intro h0
 have hl:0<(digs BB B).length:=List.length_pos_iff.2 (fun e=>h ((digs_nil_iff BB_two B).1 e))
 have h1:=digs_low BB_two B ((digs BB B).length-1) (by omega)
 have e:=val_top1 (B:=BB) (P:=digs BB B) (n:=(digs BB B).length-1) (by omega)
 rw[h0,Nat.mul_zero,Nat.add_zero,val_digs BB_two]at e
 have h2:=val_lt ((dig_digs BB_two B).take ((digs BB B).length-1))
 rw[List.length_take,Nat.min_eq_left (by omega)]at h2
 omega
theorem below_cell {w w':World}{p:Addr}{u:Value}(h:Below w.heap.size w w') (hc:w.cell? p=some u):w'.cell? p=some u:=
 (Fr.of_below (S:=fun _=>False) h).at_cell hc (fun h=>h)
theorem RdN.view1 {w:World}{v:Value}{x:Nat}(h:RdN w v [x]):∃g off k,v= .slice (some ⟨g,off,none⟩) 1 k∧1≤k∧k≤9223372036854775807∧w.cell? ⟨g,off,none⟩=some (L64 x):=by
 obtain⟨a,c,rfl,h2,h3,-,h5⟩:=h.view
 obtain⟨g,off,rfl,-,hc⟩:=h5 0 (Nat.lt_succ_self 0)
 exact⟨g,off,c,rfl,h2,h3,hc⟩
set_option maxHeartbeats 1000000 in
theorem div_num {w:World}{v u:Value}{l m:List Nat}(hl:RdN w v l) (hm:RdN w u m) (hdl:Dig BB l) (hdm:Dig BB m) (h1:l.length≤50000) (h2:m.length≤50000) (hT:Tab w):
 Calls Tryz.prog 98 #[v,u] w (TwoE w (divR (val BB l) (val BB m))):=by
 have HA:=bare_num hl hdl (by omega)
 have HB:=fun w' (hb:Below w.heap.size w w')=>bare_num (hm.below hb) hdm (by omega)
 have la:=digs_bound hdl h1 rfl
 have lb:=digs_bound hdm h2 rfl
 generalize val BB l=A at*
 generalize val BB m=B at*
 have dA:=dig_digs BB_two A
 have dB:=dig_digs BB_two B
 have HC:=fun w v u (hv:RdN w v (digs BB A)) (hu:RdN w u (digs BB B))=>cmp_any hv hu dA dB (by omega) (by omega)
 rw[val_digs BB_two,val_digs BB_two]at HC
 unfold TwoE divR
 have HT:=Lib.hid hT
 by_cases hB:B=0
 ·subst hB
  rw[if_pos rfl]
  rw[digs_zero]at*
  clear HC hT
  go_enter Tryz.func98,Tryz.ntmps98
  go_wp2_with (first
   |(go_at_call 75;(with_reducible refine HA.mono ?_);rintro e w1 ⟨v1,rfl,hr1,hb1⟩;obtain⟨a1,k1,rfl,-⟩:=hr1.view)
   |(go_at_call 75;(with_reducible refine(HB _ hb1).mono ?_);rintro e w2 ⟨v2,rfl,hr2,hb2⟩;obtain⟨a2,k2,rfl,-⟩:=hr2.view))
  go_ret3
  exact⟨_,_,rfl,RdN.nil _,RdN.nil _,hb1.trans (hb2.mono hb1.size)⟩
 ·rw[if_neg hB]
  have hBl:0<(digs BB B).length:=List.length_pos_iff.2 (fun e=>hB ((digs_nil_iff BB_two B).1 e))
  have hBn:((digs BB B).length:Int)≠0:=by omega
  by_cases hlt:A<B
  ·rw[Nat.div_eq_of_lt hlt,Nat.mod_eq_of_lt hlt,digs_zero]
   rw[cmpN_lt hlt]at HC
   have HC:=Lib.hid HC
   generalize digs BB B=sB at*
   clear hT
   go_enter Tryz.func98,Tryz.ntmps98
   go_wp2_with (first
    |(go_at_call 75;(with_reducible refine HA.mono ?_);rintro e w1 ⟨v1,rfl,hr1,hb1⟩;obtain⟨a1,k1,rfl,-⟩:=hr1.view)
    |(go_at_call 75;(with_reducible refine(HB _ hb1).mono ?_);rintro e w2 ⟨v2,rfl,hr2,hb2⟩;obtain⟨a2,k2,rfl,-⟩:=hr2.view)
    |(go_at_call 102;(with_reducible refine(HC.out _ _ _ (hr1.below hb2) hr2).mono ?_);rintro e w3 ⟨rfl,hb3⟩))
   go_ret3
   exact⟨_,_,rfl,RdN.nil _,(hr1.below hb2).below hb3,(hb1.trans (hb2.mono hb1.size)).trans (hb3.mono (Nat.le_trans hb1.size hb2.size))⟩
  ·have hcmp:decide (cmpN A B<0)=false:=decide_eq_false (by
    rcases Nat.lt_or_ge B A with h|h
    ·rw[cmpN_gt h];decide
    ·rw[show A=B by omega,cmpN_eq];decide)
   have HC:=Lib.hid HC
   generalize cmpN A B=cm at*
   by_cases hone:(digs BB B).length=1
   ·have hB64:B<BB:=by have:=(digs_length_le BB_two B 1).1 (by omega);simpa using this
    have HS:=Lib.hid (fun w v (h:RdN w v (digs BB A))=>qsmall_any h dA (by omega) hB64)
    rw[val_digs BB_two]at HS
    unfold OneLE smallR at HS
    rw[if_neg hB]at HS
    have e1:=digs_one hone
    clear hBl hBn hone lb
    generalize digs BB B=sB at*
    subst e1
    have HOf:=Lib.hid (fun w=>of_num (w:=w) (n:=A%B) (by have:=Nat.mod_lt A (Nat.pos_of_ne_zero hB);omega))
    clear hT
    go_enter Tryz.func98,Tryz.ntmps98
    go_wp2_with (first
     |(go_at_call 75;(with_reducible refine HA.mono ?_);rintro e w1 ⟨v1,rfl,hr1,hb1⟩;obtain⟨a1,k1,rfl,-⟩:=hr1.view)
     |(go_at_call 75;(with_reducible refine(HB _ hb1).mono ?_);rintro e w2 ⟨v2,rfl,hr2,hb2⟩;obtain⟨g2,o2,k2,rfl,hk2,hk3,hcell2⟩:=hr2.view1)
     |(go_at_call 102;(with_reducible refine(HC.out _ _ _ (hr1.below hb2) hr2).mono ?_);rintro e w3 ⟨rfl,hb3⟩;have hcell3:=below_cell hb3 hcell2)
     |(go_at_call 124;(with_reducible refine(HS.out _ _ ((hr1.below hb2).below hb3)).mono ?_);rintro e w4 ⟨v4,rfl,hv4,hb4⟩)
     |(go_at_call 101;(with_reducible refine(HOf.out _).mono ?_);rintro e w5 ⟨v5,rfl,hv5,hb5⟩))
    go_ret3
    exact⟨_,_,rfl,hv4.below hb5,hv5,(((hb1.trans (hb2.mono hb1.size)).trans (hb3.mono (Nat.le_trans hb1.size hb2.size))).trans (hb4.mono (Nat.le_trans (Nat.le_trans hb1.size hb2.size) hb3.size))).trans (hb5.mono (Nat.le_trans (Nat.le_trans (Nat.le_trans hb1.size hb2.size) hb3.size) hb4.size))⟩
   ·have HL:=Lib.hid (fun w v u (hv:RdN w v (digs BB A)) (hu:RdN w u (digs BB B)) (hT:Tab w)=>long_any hv hu dA dB la (by omega) ((digs_length_le BB_two B _).2 (Nat.lt_of_le_of_lt (by omega) ((digs_length_le BB_two A _).1 (Nat.le_refl _)))) (digs_top hB) hT)
    rw[val_digs BB_two,val_digs BB_two]at HL
    have hBn1:((digs BB B).length:Int)≠1:=by omega
    generalize digs BB B=sB at*
    clear hT
    go_enter Tryz.func98,Tryz.ntmps98
    go_wp2_with (first
     |(go_at_call 75;(with_reducible refine HA.mono ?_);rintro e w1 ⟨v1,rfl,hr1,hb1⟩;obtain⟨a1,k1,rfl,-⟩:=hr1.view)
     |(go_at_call 75;(with_reducible refine(HB _ hb1).mono ?_);rintro e w2 ⟨v2,rfl,hr2,hb2⟩;obtain⟨a2,k2,rfl,-⟩:=hr2.view)
     |(go_at_call 102;(with_reducible refine(HC.out _ _ _ (hr1.below hb2) hr2).mono ?_);rintro e w3 ⟨rfl,hb3⟩)
     |(go_at_call 125;(with_reducible refine(HL.out _ _ _ ((hr1.below hb2).below hb3) (hr2.below hb3) (((HT.out.below hb1).below hb2).below hb3)).mono ?_);rintro e w4 ⟨v4,u4,rfl,hv4,hu4,hb4⟩))
    go_ret3
    exact⟨_,_,rfl,hv4,hu4,((hb1.trans (hb2.mono hb1.size)).trans (hb3.mono (Nat.le_trans hb1.size hb2.size))).trans (hb4.mono (Nat.le_trans (Nat.le_trans hb1.size hb2.size) hb3.size))⟩
end Go.Proofs.YtffaefjkpipjnaaGreatDoor
namespace Go.Proofs.YtffaefjkpipjnaaGreatDoor
set_option maxRecDepth 100000
open Go.RowKit
def upR (A B:Nat):Nat×Int:=if B=0 then(0,1)else(A/B+(if A%B=0 then 0 else 1),0)
theorem div_len {A B k:Nat}(h:(digs BB A).length≤k):(digs BB (A/B)).length≤k:=
 (digs_length_le BB_two _ _).2 (Nat.lt_of_le_of_lt (Nat.div_le_self _ _) ((digs_length_le BB_two _ _).1 h))
set_option maxHeartbeats 1000000 in
theorem up_num {w:World}{v u:Value}{l m:List Nat}(hl:RdN w v l) (hm:RdN w u m) (hdl:Dig BB l) (hdm:Dig BB m) (h1:l.length≤50000) (h2:m.length≤50000) (hT:Tab w):
 Calls Tryz.prog 94 #[v,u] w (OneE w (upR (val BB l) (val BB m))):=by
 have HD:=div_num hl hm hdl hdm h1 h2 hT
 have la:=digs_bound hdl h1 rfl
 generalize val BB l=A at*
 generalize val BB m=B at*
 unfold TwoE divR at HD
 unfold OneE upR
 by_cases hB:B=0
 ·rw[if_pos hB]at*
  go_enter Tryz.func94,Tryz.ntmps94
  go_wp2_with (go_at_call 98;(with_reducible refine HD.mono ?_);rintro e w1 ⟨v1,u1,rfl,hv1,hu1,hb1⟩)
  go_ret2
  exact⟨_,rfl,hv1,hb1⟩
 ·rw[if_neg hB]at*
  have HAd:=Lib.hid (fun w v u (h:RdN w v (digs BB (A/B))) (h2:RdN w u (digs BB 1))=>add_num h h2 (dig_digs BB_two 1) (div_len la) (by decide))
  rw[val_digs BB_two]at HAd
  have HOf:=Lib.hid (fun w=>show Calls Tryz.prog 101 #[.int .u64 1] w (One w (digs BB 1))from of_num (w:=w) (n:=1) (by decide))
  by_cases hr:A%B=0
  ·rw[if_pos hr,Nat.add_zero]
   rw[hr,digs_zero]at HD
   go_enter Tryz.func94,Tryz.ntmps94
   go_wp2_with (go_at_call 98;(with_reducible refine HD.mono ?_);rintro e w1 ⟨v1,u1,rfl,hv1,hu1,hb1⟩;obtain⟨a1,k1,rfl,-⟩:=hu1.view)
   go_ret2
   exact⟨_,rfl,hv1,hb1⟩
  ·rw[if_neg hr]
   have hrl:0<(digs BB (A%B)).length:=List.length_pos_iff.2 (fun e=>hr ((digs_nil_iff BB_two _).1 e))
   have hrn:((digs BB (A%B)).length:Int)≠0:=by omega
   generalize digs BB (A%B)=sR at*
   go_enter Tryz.func94,Tryz.ntmps94
   go_wp2_with (first
    |(go_at_call 98;(with_reducible refine HD.mono ?_);rintro e w1 ⟨v1,u1,rfl,hv1,hu1,hb1⟩;obtain⟨a1,k1,rfl,-⟩:=hu1.view)
    |(go_at_call 101;(with_reducible refine(HOf.out _).mono ?_);rintro e w2 ⟨v2,rfl,hv2,hb2⟩)
    |(go_at_call 108;(with_reducible refine(HAd.out _ _ _ (hv1.below hb2) hv2).mono ?_);rintro e w3 ⟨v3,rfl,hv3,hb3⟩))
   go_ret2
   exact⟨_,rfl,hv3,(hb1.trans (hb2.mono hb1.size)).trans (hb3.mono (Nat.le_trans hb1.size hb2.size))⟩
end Go.Proofs.YtffaefjkpipjnaaGreatDoor
namespace Go.Proofs.YtffaefjkpipjnaaGreatDoor
set_option maxRecDepth 100000
open Go.RowKit Go.ChangeShapes Go.WideShapes
theorem sub_n {w:World}{v u:Value}{A B C:Nat}(h:Num w v A) (k:Num w u B) (e:B+C=A):Calls Tryz.prog 109 #[v,u] w (OneZ w C):=by
 obtain⟨l,h1,h2,h3,rfl⟩:=h
 obtain⟨m,k1,k2,k3,rfl⟩:=k
 have:=sub_any h1 k1 h2 k2 (by omega) (by omega)
 unfold subR at this
 rw[if_neg (by omega),show val BB l-val BB m=C by omega]at this
 exact this
theorem sub_under {w:World}{v u:Value}{A B:Nat}(h:Num w v A) (k:Num w u B) (e:A<B):Calls Tryz.prog 109 #[v,u] w (fun e w'=>∃v,e= .returned (.tuple #[v,.int .i64 1])∧RdN w' v (digs BB 0)∧Below w.heap.size w w'):=by
 obtain⟨l,h1,h2,h3,rfl⟩:=h
 obtain⟨m,k1,k2,k3,rfl⟩:=k
 have:=sub_any h1 k1 h2 k2 (by omega) (by omega)
 unfold subR at this
 rw[if_pos e]at this
 exact this
def TwoZ (w:World) (q r:Nat) (e:Ending) (w':World):Prop:=∃v u,e= .returned (.tuple #[v,u,.int .i64 0])∧RdN w' v (digs BB q)∧RdN w' u (digs BB r)∧Below w.heap.size w w'
theorem div_n {w:World}{v u:Value}{A B Q R:Nat}(h:Num w v A) (k:Num w u B) (hT:Tab w) (h0:B≠0) (e1:A/B=Q) (e2:A%B=R):Calls Tryz.prog 98 #[v,u] w (TwoZ w Q R):=by
 obtain⟨l,h1,h2,h3,rfl⟩:=h
 obtain⟨m,k1,k2,k3,rfl⟩:=k
 have:=div_num h1 k1 h2 k2 (by omega) (by omega) hT
 unfold divR at this
 rw[if_neg h0,e1,e2]at this
 exact this
theorem up_n {w:World}{v u:Value}{A B U:Nat}(h:Num w v A) (k:Num w u B) (hT:Tab w) (h0:B≠0) (e:A/B+(if A%B=0 then 0 else 1)=U):Calls Tryz.prog 94 #[v,u] w (OneZ w U):=by
 obtain⟨l,h1,h2,h3,rfl⟩:=h
 obtain⟨m,k1,k2,k3,rfl⟩:=k
 have:=up_num h1 k1 h2 k2 (by omega) (by omega) hT
 unfold upR at this
 rw[if_neg h0,e]at this
 exact this
theorem small_n {w:World}{v:Value}{A n Q R:Nat}(h:Num w v A) (hn:n<BB) (h0:n≠0) (e1:A/n=Q) (e2:A%n=R):Calls Tryz.prog 124 #[v,L64 n] w (fun e w'=>∃v,e= .returned (.tuple #[v,L64 R,.int .i64 0])∧RdN w' v (digs BB Q)∧Below w.heap.size w w'):=by
 obtain⟨l,h1,h2,h3,rfl⟩:=h
 have:=qsmall_any (n:=n) h1 h2 (by omega) hn
 unfold smallR at this
 rw[if_neg h0,e1,e2]at this
 exact this
end Go.Proofs.YtffaefjkpipjnaaGreatDoor
namespace Go.Proofs.YtffaefjkpipjnaaGreatDoor
set_option maxRecDepth 100000
open Go.RowKit
def shlR (A:Nat) (n:Int):Nat×Int:=if n<0 then(0,1)else if A=0 then(0,0)else if 65536-(bitN A:Int)<n then(0,2)else(A*2^n.toNat,0)
theorem or_low' {c x s:Nat}(hs:s≤64) (hc:c<2^s):bits .or .u64 ((x*2^s%BB:Nat):Int) (c:Int)=((x*2^s%BB+c:Nat):Int)∧x*2^s%BB+c<18446744073709551616:=by
 obtain⟨h1,h2⟩:=or_low (x:=x) hs hc
 have h3:c<2^64:=Nat.lt_of_lt_of_le hc (Nat.pow_le_pow_right (by omega) hs)
 have h4:x*2^s%BB<2^64:=by rw[←BB_pow];exact Nat.mod_lt _ BB_pos
 rw[(bits_nat .u64 64 (by decide) (fun n h0 h1=>by rw[IntKind.wrap_u64];omega) c _ h3 h4).2]at h1
 rw[(bits_nat .u64 64 (by decide) (fun n h0 h1=>by rw[IntKind.wrap_u64];omega) _ c h4 h3).2,Nat.or_comm]
 exact⟨by rw[h1,Nat.add_comm],by omega⟩
def limbZ (l:List Nat) (i:Int):Nat:=if i<0 then 0 else l.getD i.toNat 0
theorem limbZ_nat (l:List Nat) (k:Nat):limbZ l (k:Int)=l.getD k 0:=by unfold limbZ;rw[if_neg (by omega)];rfl
theorem limbZ_neg (l:List Nat) {i:Int}(h:i<0):limbZ l i=0:=by unfold limbZ;rw[if_pos h]
theorem limbZ_lt {l:List Nat}(hd:Dig BB l) (i:Int):limbZ l i<BB:=by
 unfold limbZ;split
 ·decide
 ·exact hd.getD BB_pos _
theorem shl_limb {l:List Nat}(hd:Dig BB l) {n wh pt k:Nat}{j:Int}(hn:n=64*wh+pt) (hp:pt<64) (hj:(k:Int)-(wh:Int)=j):
 val BB l*2^n/BB^k%BB=limbZ l j*2^pt%BB+limbZ l (j-1)/2^(64-pt)∧limbZ l (j-1)/2^(64-pt)<2^pt:=by
 have hPR:2^pt*2^(64-pt)=BB:=by rw[←Nat.pow_add,show pt+(64-pt)=64 by omega,BB_pow]
 have hP:0<2^pt:=Nat.pow_pos (by omega)
 have hlt:limbZ l (j-1)/2^(64-pt)<2^pt:=by
  rw[Nat.div_lt_iff_lt_mul (Nat.pow_pos (by omega)),hPR];exact limbZ_lt hd _
 refine⟨?_,hlt⟩
 have e0:2^n=BB^wh*2^pt:=by rw[hn,Nat.pow_add,Nat.pow_mul,BB_pow]
 by_cases h1:k<wh
 ·rw[limbZ_neg l (by omega),limbZ_neg l (by omega),Nat.zero_mul,Nat.zero_mod,Nat.zero_div]
  obtain⟨d,rfl⟩:∃d,wh=k+1+d:=⟨wh-k-1,by omega⟩
  rw[e0,show val BB l*(BB^(k+1+d)*2^pt)=BB^k*(BB*(val BB l*BB^d*2^pt))by
   rw[Nat.pow_add,Nat.pow_succ];simp only[Nat.mul_assoc,Nat.mul_comm,Nat.mul_left_comm],Nat.mul_div_cancel_left _ (Nat.pow_pos BB_pos),Nat.mul_mod_right]
 ·obtain⟨i,rfl⟩:∃i,k=wh+i:=⟨k-wh,by omega⟩
  obtain rfl:j=(i:Int):=by omega
  have e1:val BB l*2^n/BB^(wh+i)=val BB l*2^pt/BB^i:=by
   rw[e0,Nat.pow_add,show val BB l*(BB^wh*2^pt)=BB^wh*(val BB l*2^pt)by rw[Nat.mul_left_comm],Nat.mul_div_mul_left _ _ (Nat.pow_pos BB_pos)]
  rw[e1,limbZ_nat]
  by_cases h2:i=0
  ·subst h2
   rw[limbZ_neg l (by omega),Nat.pow_zero,Nat.div_one,Nat.zero_div,Nat.add_zero]
   have:=val_drop_any BB l 0
   rw[List.drop_zero]at this
   rw[this,Nat.add_mul,Nat.mul_assoc,Nat.add_mul_mod_self_left]
  ·obtain⟨i,rfl⟩:∃t,i=t+1:=⟨i-1,by omega⟩
   rw[show((i+1:Nat):Int)-1=(i:Int)by omega,limbZ_nat]
   by_cases h3:pt=0
   ·subst h3
    rw[Nat.pow_zero,Nat.mul_one,Nat.mul_one,val_div BB_pos hd,val_drop_any,Nat.add_mul_mod_self_left]
    have hx:=hd.getD BB_pos i
    rw[Nat.div_eq_of_lt (show l.getD i 0<2^(64-0)by rw[Nat.sub_zero,←BB_pow];exact hx)];rfl
   ·have e2:val BB l*2^pt/BB^(i+1)=val BB l/2^(64*i+(64-pt)):=by
     have:BB^(i+1)=2^(64*i+(64-pt))*2^pt:=by
      rw[Nat.pow_succ,←hPR,Nat.pow_add,Nat.pow_mul,hPR,BB_pow,Nat.mul_assoc,←Nat.pow_add,show 64-pt+pt=64 by omega]
     rw[this,Nat.mul_div_mul_right _ _ hP]
    have h4:=(shr_limb hd (n:=64*i+(64-pt)) (k:=0) rfl (by omega)).1
    rw[Nat.pow_zero,Nat.div_one,Nat.zero_add,show 64-(64-pt)=pt by omega]at h4
    rw[e2,h4,Nat.add_comm]
set_option maxRecDepth 100000 in
set_option maxHeartbeats 1000000 in
theorem shl_any {w:World}{v:Value}{l:List Nat}{i:Int}(hl:RdN w v l) (hdl:Dig BB l) (h1:l.length≤100000) (hi:i≤9223372036854775807) (hi': -9223372036854775808≤i):
 Calls Tryz.prog 100 #[v,.int .i64 i] w (OneE w (shlR (val BB l) i)):=by
 obtain⟨i0,hi0,hz0,hz1,hz2⟩:=info_parts infoU
 have HA:=bare_num hl hdl h1
 have la:=digs_bound hdl h1 rfl
 generalize val BB l=A at*
 have dA:=dig_digs BB_two A
 have eA:=val_digs BB_two A
 have gA:=digs_bits (n:=A) la
 have HbA:=Lib.hid (fun(w:World) v (h1:RdN w v (digs BB A))=>bits_num h1 dA la)
 rw[eA]at HbA
 unfold OneE shlR
 by_cases hneg:i<0
 ·rw[if_pos hneg]
  go_enter Tryz.func100,Tryz.ntmps100
  go_wp2_with (go_at_call 75;(with_reducible refine HA.mono ?_);rintro e w1 ⟨v1,rfl,hr,hb1⟩)
  go_ret2
  exact⟨_,rfl,RdN.nil0 _,hb1⟩
 ·rw[if_neg hneg]
  by_cases h0:A=0
  ·rw[if_pos h0]
   rw[h0,digs_zero]at HA
   have hnd:decide (i<0)=false:=decide_eq_false hneg
   go_enter Tryz.func100,Tryz.ntmps100
   go_wp2_with (go_at_call 75;(with_reducible refine HA.mono ?_);rintro e w1 ⟨v1,rfl,hr,hb1⟩;obtain⟨a1,k1,rfl,-⟩:=hr.view)
   go_ret2
   exact⟨_,rfl,RdN.nil0 _,hb1⟩
  ·rw[if_neg h0]
   have hsl:0<(digs BB A).length:=List.length_pos_iff.2 (fun e=>h0 ((digs_nil_iff BB_two _).1 e))
   have hsn:((digs BB A).length:Int)≠0:=by omega
   obtain⟨b,hb⟩:∃b,bitN A=b:=⟨_,rfl⟩
   rw[hb]at HbA gA⊢
   by_cases hbig:65536-(b:Int)<i
   ·rw[if_pos hbig]
    generalize digs BB A=s at*
    go_enter Tryz.func100,Tryz.ntmps100
    go_wp2_with (first
     |(go_at_call 75;(with_reducible refine HA.mono ?_);rintro e w1 ⟨v1,rfl,hr,hb1⟩;obtain⟨a1,k1,rfl,-⟩:=hr.view)
     |(go_at_call 48;(with_reducible refine(HbA.out _ _ hr).mono ?_);rintro e w2 ⟨rfl,hb2⟩))
    go_ret2
    exact⟨_,rfl,RdN.nil0 _,hb1.trans (hb2.mono hb1.size)⟩
   ·rw[if_neg hbig]
    obtain⟨n,rfl⟩:=Int.eq_ofNat_of_zero_le (show 0≤i by omega)
    rw[Int.toNat_natCast]
    obtain⟨wh,hwh2⟩:∃x,n/64=x:=⟨_,rfl⟩
    obtain⟨pt,hpt⟩:∃x,n%64=x:=⟨_,rfl⟩
    have hnw:n=64*wh+pt:=by omega
    have hpt64:pt<64:=by omega
    have hwI2:(n:Int).tdiv 64=(wh:Int):=by rw[Int.tdiv_eq_ediv_of_nonneg (by omega)];omega
    have hpI2:(n:Int).tmod 64=(pt:Int):=by rw[Int.tmod_eq_emod_of_nonneg (by omega)];omega
    have hAm:A*2^n<BB^((digs BB A).length+wh+1):=by
     have h2:=(digs_length_le BB_two A (digs BB A).length).1 (Nat.le_refl _)
     have h3:2^n≤BB^(wh+1):=by
      rw[BB_pow,←Nat.pow_mul];exact Nat.pow_le_pow_right (by omega) (by omega)
     rw[Nat.add_assoc,Nat.pow_add]
     exact Nat.lt_of_lt_of_le (Nat.mul_lt_mul_of_pos_right h2 (Nat.pow_pos (by omega))) (Nat.mul_le_mul_left _ h3)
    have hs1:(digs BB A).length≤1024:=digs_short (k:=1024) (by omega)
    have hlimb:=fun(k:Nat) (j:Int) (hj:(k:Int)-(wh:Int)=j)=>shl_limb (l:=digs BB A) dA (k:=k) hnw hpt64 hj
    rw[eA]at hlimb
    have hlimb:=Lib.hid hlimb
    generalize digs BB A=s at*
    obtain⟨m,hm,hm2⟩:∃m:Nat,((s.length:Int)+(wh:Int)+1)=(m:Int)∧s.length+wh+1=m:=⟨s.length+wh+1,by omega,rfl⟩
    rw[hm2]at hAm
    have HAM:=Lib.hid hAm
    have HNW:=Lib.hid hnw
    have hn16:n≤65536:=by omega
    have hwh1:wh≤1024:=by omega
    have hm3:m≤2100:=by omega
    clear hAm hwh2 hpt hnw
    go_enter Tryz.func100,Tryz.ntmps100
    go_wp2_with (first
     |(go_at_call 75;(with_reducible refine HA.mono ?_);rintro e w1 ⟨v1,rfl,hr,hb1⟩;obtain⟨a1,k1,rfl,-⟩:=hr.view)
     |(go_at_call 48;(with_reducible refine(HbA.out _ _ hr).mono ?_);rintro e w2 ⟨rfl,hb2⟩)
     |(at_make;go_loud (refine wpList_make_full _ rfl (.tmp 34) (.tmp 34) 55 rfl w2.heap.size 22 i0 (.int .u64 0) 1 Tryz.underlying55 hi0 hz0 hz1 .i64 .i64 m m m ?_ ?_ rfl rfl ?_ ?_ ?_ ?_;(any_goals (first|rfl|(rw[hz2];omega)|(unfold maxLen;omega)|(with_reducible exact Nat.le_refl _)));intro w0 hown0 hgrow0)))
    rw[made_zero]at hown0
    have B2:=hb1.trans (hb2.mono hb1.size)
    have HS:=Lib.hid (show ShrRel w2 (A*2^n) m 0 (List.replicate m 0) w0 from⟨Nat.zero_le _,by simp,Dig.replicate BB_pos _,by rw[List.take_zero,val_nil,Nat.pow_zero,Nat.mod_one],hown0,(Below.refl _ _).grown hgrow0 (Nat.le_refl _) (by simp)⟩)
    have HR2:=Lib.hid (hr.below hb2)
    clear hown0 hgrow0
    go_loopw [38] (fun i wr=>∃(k:Nat) (X:List Nat),i= .int .i64 k∧ShrRel w2 (A*2^n) m k X wr) (fun i _=>m-(intOf i).toNat)
    case atStart=>exact⟨0,_,rfl,HS.out⟩
    case round=>
     clear HS
     obtain⟨k,X,rfl,hR⟩:=hrel
     have HR:=Lib.hid hR
     have hk:=hR.le;have hXl:=hR.len;have hB:=hR.below
     have B3:=B2.trans (hB.mono B2.size)
     by_cases hkm:k<m
     ·obtain⟨j,hj⟩:∃t:Int,(k:Int)-(wh:Int)=t:=⟨_,rfl⟩
      have hjl:j≤200000:=by omega
      have hjg: -2000≤j:=by omega
      have RD:=(HR2.out.below hB).below (below_drewN (Below.refl _ _) 1)
      have HLa:=limb_any RD (i:=j) (by omega) (by omega)
      have HLb:=limb_any RD (i:=j-1) (by omega) (by omega)
      change Calls _ _ _ _ (fun e w'=>e= .returned (L64 (limbZ s j))∧_)at HLa
      change Calls _ _ _ _ (fun e w'=>e= .returned (L64 (limbZ s (j-1)))∧_)at HLb
      have hlim:=hlimb.out k j hj
      have hca:=hR.own.cellAt k (by omega)
      rw[List.getElem?_map,List.getElem?_eq_getElem (by omega),Option.map_some,←getD_lt]at hca
      have hfr:=hR.own.frozenAt k
      obtain⟨hor,hob⟩:=or_low' (x:=limbZ s j) (show pt≤64 by omega) hlim.2
      have hYI:IntKind.u64.wrap ((limbZ s j:Int)*2^pt)=((limbZ s j*2^pt%BB:Nat):Int):=by rw[IntKind.wrap_u64,show BB=18446744073709551616 from rfl];simp
      have hXI:(limbZ s (j-1):Int)/2^(64-pt)=((limbZ s (j-1)/2^(64-pt):Nat):Int):=by simp
      have hx:=limbZ_lt dA (j-1)
      have hxb:limbZ s (j-1)/2^(64-pt)≤limbZ s (j-1):=Nat.div_le_self _ _
      have HST:=Lib.hid ((hR.drewN 1).step hkm hlim.1.symm)
      clear hR hlim
      generalize limbZ s (j-1)/2^(64-pt)=xl at*
      generalize limbZ s j*2^pt%BB=yl at*
      generalize limbZ s (j-1)=x at*
      generalize limbZ s j=y at*
      generalize X.getD k 0=o at*
      obtain⟨t,ht⟩:∃t,yl+xl=t:=⟨_,rfl⟩
      rw[ht]at hor hob HST
      clear ht
      have hx64:x<18446744073709551616:=hx
      have hm1:min pt 64=pt:=by omega
      have hm2:min ((64:Int)-(pt:Int)).toNat 64=64-pt:=by omega
      have hW1:IntKind.u64.wrap (t:Int)=(t:Int):=by rw[IntKind.wrap_u64];omega
      have hW2:IntKind.u64.wrap (xl:Int)=(xl:Int):=by rw[IntKind.wrap_u64];omega
      have hW3:IntKind.i64.wrap (j-1)=j-1:=by rw[IntKind.wrap_i64];omega
      have hW4:IntKind.i64.wrap (64-(pt:Int))=64-(pt:Int):=by rw[IntKind.wrap_i64];omega
      have HLa:=Lib.hid HLa;have HLb:=Lib.hid HLb
      go_wp2
      go_still_tail 15,(by kernel_rfl)
      still_call HLa.out
      repeat still_step
      still_call HLb.out
      repeat still_step
      refine wpStill_nil ?_
      change wpList _ _ _ _ _ wr.drew
      have hca2:wr.drew.cell? ⟨w2.heap.size,k,none⟩=some (L64 o):=hca
      have hfr2:wr.drew.frozen? ⟨w2.heap.size,k,none⟩=false:=hfr
      change Hid (ShrRel w2 _ m (k+1) _ (wr.drew.setCell _ _))at HST
      clear hca hfr HLa HLb RD
      generalize wr.drew=w3 at*
      go_wp2
      go_round
      case rel=>exact⟨k+1,_,by go_num,HST.out⟩
      case measure=>simp[intOf];omega
     ·have hkl:k=m:=by omega
      subst hkl
      have E:=hR.fin HAM.out
      have RX:RdN _ _ X:=Rd.of_own hR.own (fun _ _=>trivial)
      clear hR
      go_wp2_with (go_at_call 75;(with_reducible refine(bare_any RX ?_).mono ?_);(focus omega);rintro e w4 ⟨v4,rfl,hr4,hb4⟩)
      go_ret2
      rw[E]at hr4
      exact⟨_,rfl,hr4,B3.trans (hb4.mono B3.size)⟩
end Go.Proofs.YtffaefjkpipjnaaGreatDoor
namespace Go.Proofs.YtffaefjkpipjnaaGreatDoor
set_option maxRecDepth 100000
open Go.RowKit Go.ChangeShapes Go.WideShapes
theorem shl_n {w:World}{v:Value}{A n C:Nat}(h:Num w v A) (e:A*2^n=C) (hn:n+bitN A≤65536):Calls Tryz.prog 100 #[v,.int .i64 n] w (OneZ w C):=by
 obtain⟨l,h1,h2,h3,rfl⟩:=h
 subst e
 have:=shl_any h1 h2 (i:=(n:Int)) (by omega) (by omega) (by omega)
 unfold shlR at this
 rw[if_neg (by omega)]at this
 by_cases h0:val BB l=0
 ·rw[if_pos h0]at this
  rw[h0,Nat.zero_mul];exact this
 ·rw[if_neg h0,if_neg (by omega),Int.toNat_natCast]at this
  exact this
theorem times_n {w:World}{v:Value}{A n C:Nat}(h:Num w v A) (hn:n<BB) (e:A*n=C) (hs:bitN A+bitN n≤65536):Calls Tryz.prog 110 #[v,L64 n] w (OneZ w C):=by
 obtain⟨l,h1,h2,h3,rfl⟩:=h
 subst e
 have:=times_any h1 h2 (by omega) hn
 rw[mulR_small hs]at this
 exact this
theorem of_n {w:World}{n:Nat}(hn:n<BB):Calls Tryz.prog 101 #[L64 n] w (One w (digs BB n)):=of_num hn
theorem of_1 {w:World}:Calls Tryz.prog 101 #[.int .u64 1] w (One w (digs BB 1)):=of_one
end Go.Proofs.YtffaefjkpipjnaaGreatDoor
