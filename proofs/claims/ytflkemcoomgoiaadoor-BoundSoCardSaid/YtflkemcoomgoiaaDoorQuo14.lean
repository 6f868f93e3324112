/- quo.long by its contract: the walk. Conditions: the lists are short, the limbs are limbs, the divisor has two limbs at least and is bare, the dividend isn't shorter. -/
import Derived.Test.YtflkemcoomgoiaaDoorQuoC
import Derived.Deep.CutBlock
namespace Go.Proofs.YtflkemcoomgoiaaDoor
set_option maxRecDepth 100000
open Go.RowKit

set_option maxRecDepth 100000 in
set_option maxHeartbeats 1000000 in
theorem long_any {w : World} {v u : Value} {l m : List Nat} (hl : RdN w v l) (hm : RdN w u m) (hdl : Dig BB l) (hdm : Dig BB m) (h1 : l.length ≤ 50000) (h2 : 2 ≤ m.length) (h3 : m.length ≤ l.length) (h4 : m.getD (m.length - 1) 0 ≠ 0) (hT : Tab w) :
    Calls Tryd.prog 88 #[v, u] w (TwoN w (val BB l / val BB m) (val BB l % val BB m)) := by
  obtain ⟨a, c, rfl, hac, hc, -, -⟩ := hl.view
  obtain ⟨b, d, rfl, hbc, hd, -, hcb⟩ := hm.view
  obtain ⟨i0, hi, hz0, hz1, hz2⟩ := info_parts infoU
  have hb64 := hdm.getD BB_pos (m.length - 1)
  obtain ⟨g, of, rfl, hg, hcell⟩ := hcb (m.length - 1) (by omega)
  rw [← List.getD_eq_getElem?_getD] at hcell
  have HL := Lib.hid hl; have HM := Lib.hid hm; clear hl hm hcb
  generalize hbt : m.getD (m.length - 1) 0 = bt at *
  have HBT := Lib.hid hbt
  have bt64 : bt < 18446744073709551616 := hb64
  obtain ⟨s, hs⟩ : ∃ s, 64 - bitN bt = s := ⟨_, rfl⟩
  have HLZ := Lib.hid (fun w => lz_any (w := w) bt64)
  rw [hs] at HLZ
  obtain ⟨hs63, hY1, hY2⟩ := shift_top h4 bt64 hs
  have HY := Lib.hid (And.intro hY1 hY2)
  clear hs hbt hb64 hY1 hY2
  have HLe := Lib.hid (fun w v (h : RdN w v l) => left_any (s := s) h hdl (by omega) hs63)
  have HRi := Lib.hid (fun w v (h : RdN w v m) => left_any (s := s) h hdm (by omega) hs63)
  go_enter Tryd.func88, Tryd.ntmps88
  go_upto_region 3 with (first
    | (go_at_call 100; (with_reducible refine (HLZ.out _).mono ?_); rintro e w1 ⟨rfl, rfl⟩)
    | fail)
  go_cut [8, 9] (fun u v wx => ∃ BU BV U V, u = .slice (some ⟨BU, 0, none⟩) (l.length + 1) (l.length + 1) ∧ v = .slice (some ⟨BV, 0, none⟩) m.length (m.length + 1) ∧ Shifted w1 l m s BU BV U V wx)
  case first =>
    have hmI : IntKind.i64.wrap (m.length : Int) = (m.length : Int) := by rw [IntKind.wrap_i64]; omega
    obtain ⟨bv, hbv, hbv1⟩ : ∃ n : Nat, ((m.length : Int) + 1) = (n : Int) ∧ m.length + 1 = n := ⟨m.length + 1, by omega, rfl⟩
    have HLd : Hid (RdN w1.drew _ l) := Lib.hid (HL.out.below (below_drewN (Below.refl _ _) 1))
    have HMd : Hid (RdN w1.drew _ m) := Lib.hid (HM.out.below (below_drewN (Below.refl _ _) 1))
    go_region_with (first
      | (go_at_call 101; ((with_reducible refine (HLe.out _ _ HLd.out).mono ?_)); rintro e w2 ⟨rfl, U, hU⟩; have HU := Lib.hid hU; clear hU)
      | (go_at_call 101; ((with_reducible refine (HRi.out _ _ (HMd.out.below HU.out.2.2.2.2)).mono ?_)); rintro e w3 ⟨rfl, V, hV⟩; have HV := Lib.hid hV; clear hV))
    all_goals
      go_wp2_with fail
      go_meet
      rw [← hbv1]
      exact ⟨_, _, _, _, rfl, rfl, .mk1 (w1 := w2) (show _ ∧ _ ∧ _ ∧ _ ∧ Below w1.heap.size w1 w2 from ⟨HU.out.1, HU.out.2.1, HU.out.2.2.1, HU.out.2.2.2.1, of_drew HU.out.2.2.2.2⟩) HV.out⟩
  case rest =>
    obtain ⟨BU, BV, U, V, rfl, rfl, hS⟩ := hcut
    obtain ⟨qn, hqI, hqn⟩ : ∃ n : Nat, ((l.length : Int) - (m.length : Int) + 1) = (n : Int) ∧ l.length - m.length + 1 = n := ⟨l.length - m.length + 1, by omega, rfl⟩
    have HS := Lib.hid hS
    go_wp2_with (at_make; go_loud (refine wpList_make_full _ rfl (.tmp 37) (.tmp 37) 22 rfl wc.heap.size 41 i0 (.int .u64 0) 1 Tryd.underlying22 hi hz0 hz1 .i64 .i64 qn qn qn ?_ ?_ rfl rfl ?_ ?_ ?_ ?_; (any_goals (first | rfl | (rw [hz2]; omega) | (unfold maxLen; omega) | (with_reducible exact Nat.le_refl _))); intro w0 hown0 hgrow0))
    rw [made_zero] at hown0
    obtain ⟨eV, hDlt, hVtop⟩ := hS.divisor hdm h2 (by rw [HBT.out]; exact HY.out.1) (by rw [HBT.out]; exact HY.out.2)
    have hst := hS.start hdl h2 h3 (by rw [HBT.out]; exact h4)
    have hV1len : (V.take m.length).length = m.length := by rw [List.length_take, hS.vlen]; omega
    have hV1d := hS.vdig.take m.length
    have hVtop1 : 9223372036854775808 ≤ (V.take m.length).getD (m.length - 1) 0 := by rw [getD_take_lt (by omega)]; exact hVtop
    have rdV := rd_part hS.vown 0 m.length (m.length + 1) (by omega) (by omega) (by unfold maxLen; omega)
    rw [List.drop_zero] at rdV
    have hcs : w1.heap.size ≤ wc.heap.size := hS.below.size
    have hFm : Fr (fun _ => False) wc w0 := (Fr.refl _ _).grown hgrow0 (by simp)
    have HO := Lib.hid (show OutRel w1 w0 BU wc.heap.size (l.length + 1) (val BB l * 2 ^ s) (val BB m * 2 ^ s) m.length qn qn U (List.replicate qn 0) w0 from
      ⟨by rw [← hqn]; exact hst, own_fr_at hS.uown hFm (fun h => h), own_base hown0 hcs, .refl _ _⟩)
    have HRV := Lib.hid (rdV.keep hFm (fun _ _ h => h))
    have HFin := Lib.hid (fun U Q => LongRel.fin (A := val BB l) (B := val BB m) (n := m.length) (m := qn) (s := s) (U := U) (Q := Q))
    have hne := hS.ne; have hbul := hS.bul; have hbvl := hS.bvl
    have hbu := hS.bu
    have HBel := Lib.hid (hS.below.trans ((hFm.below hcs (fun _ _ h => h))))
    have HT1 := Lib.hid hT
    have hw0s : wc.heap.size < w0.heap.size := own_lt hown0
    generalize List.take m.length V = V1 at *
    clear HLZ HLe HRi HL HM hcell HY HBT hst hS HS hVtop hown0 hgrow0 rdV hFm hT
    clear hdl hdm h4 bt64 hac hbc hc hd hg
    generalize val BB l = A at *
    generalize val BB m = B at *
    generalize m.length = n at *
    generalize l.length = ln at *
    obtain ⟨lu, hluI, hlu⟩ : ∃ x : Nat, ((ln : Int) + 1) = (x : Int) ∧ ln + 1 = x := ⟨ln + 1, by omega, rfl⟩
    obtain ⟨vc, hvcI, hvc⟩ : ∃ x : Nat, ((n : Int) + 1) = (x : Int) ∧ n + 1 = x := ⟨n + 1, by omega, rfl⟩
    simp only [hlu, hvc] at HO HRV ⊢
    have HLU := Lib.hid hlu
    have HVC := Lib.hid hvc
    have HD := Lib.hid hDlt; have HeV := Lib.hid eV
    clear hDlt eV
    generalize wc.heap.size = BQ at *
    go_loopw [11] (fun i wr => ∃ (p : Nat) (jI : Int) (U Q : List Nat), i = .int .i64 jI ∧ jI + 1 = p ∧ OutRel w1 w0 BU BQ lu (A * 2 ^ s) (B * 2 ^ s) n qn p U Q wr) (fun i _ => ((intOf i) + 1).toNat)
    case atStart => exact ⟨qn, (qn : Int) - 1, _, _, rfl, by omega, HO.out⟩
    case round =>
      obtain ⟨p, jI, U, Q, rfl, hjI, hR⟩ := hrel
      have HR := Lib.hid hR
      have hp := hR.r.le
      have hQl := hR.r.qlen
      have hUl := hR.r.ulen
      cases p with
      | zero =>
        obtain rfl : jI = -1 := by omega
        have HU := Lib.hid (show RdN _ _ U from Rd.of_own hR.uo (fun _ _ => trivial))
        have HQ := Lib.hid (show RdN _ _ Q from Rd.of_own hR.qo (fun _ _ => trivial))
        have HBW := Lib.hid (HBel.out.trans (hR.fr.below HBel.out.size (fun k hk hs => by rcases hs with hs | hs <;> omega)))
        have HTW := Lib.hid (HT1.out.below HBW.out)
        have HShr := Lib.hid (shr_any (i := (s : Int)) HU.out hR.r.udig (by omega) (by omega) (by omega) HTW.out)
        have hQd := hR.r.qdig
        have HE := Lib.hid (HFin.out U Q hR.r)
        clear hR
        go_wp2_with (first
          | (go_at_call 74; (with_reducible refine HShr.out.mono ?_); rintro e w5 ⟨v5, rfl, hr5, hb5⟩)
          | (go_at_call 52; (with_reducible refine (bare_any (HQ.out.below hb5) ?_).mono ?_); (focus omega); rintro e w6 ⟨v6, rfl, hr6, hb6⟩))
        go_ret2
        rw [HE.out.1] at hr6
        rw [Int.toNat_natCast, HE.out.2] at hr5
        exact ⟨_, _, rfl, hr6, hr5.below hb6, (HBW.out.trans (hb5.mono HBW.out.size)).trans (hb6.mono (Nat.le_trans HBW.out.size hb5.size))⟩
      | succ j =>
        obtain rfl : jI = j := by omega
        have hF := hR.fr
        have HF := Lib.hid hF
        obtain ⟨jn, hjnI, hjn⟩ : ∃ x : Nat, ((j : Int) + (n : Int) + 1) = (x : Int) ∧ j + n + 1 = x := ⟨j + n + 1, by omega, rfl⟩
        have hjd : jn - j = vc := by omega
        have RV := Lib.hid (HRV.out.keep hF (fun g hg hs => by rcases hs with hs | hs <;> omega))
        have RP : Rd (fun g => g = BU) wr.drew (.slice (some ⟨BU, j, none⟩) vc (lu - j)) ((part U j n).map L64) := by
          have h := rd_part hR.drew.uo j vc (lu - j) (by omega) (by omega) (by unfold maxLen; omega)
          unfold part
          rw [HVC.out]
          exact h
        have RP := Lib.hid (show RdN wr.drew _ (part U j n) from RP.mono (N' := fun _ => True) (fun _ _ _ => trivial))
        have HNV := Lib.hid (show ∀ g, g = BV → g ≠ BU from fun g h e => hne (e.symm.trans h))
        have HNS := Lib.hid (show ∀ g, g = BV → ¬ (g = BU ∨ g = BQ) from fun g hg hs => by rcases hs with hs | hs <;> omega)
        have HRd := Lib.hid hR.drew
        have hul := hR.r.ulen
        have HTk := Lib.hid (fun w v q (how : w.ownsRow w1.heap.size 41 1 (.slice (some ⟨BU, 0, none⟩) lu lu) lu (U.map L64)) (hr : Rd (fun g => g ≠ BU) w v (V1.map L64)) (hq : q < BB) =>
          take_any (C := lu - j) how hr (off := j) (by omega) (by omega) (by omega) (by omega) hV1d hR.r.udig hq)
        have HPk := Lib.hid (fun w v X (how : w.ownsRow w1.heap.size 41 1 (.slice (some ⟨BU, 0, none⟩) lu lu) lu (X.map L64)) (hr : Rd (fun g => g ≠ BU) w v (V1.map L64)) (hx : X.length = lu) (hd : Dig BB X) =>
          put_any (C := lu - j) how hr (off := j) (by omega) (by omega) (by omega) hx hV1d hd)
        rw [hV1len, HVC.out] at HTk HPk
        have hc1 := rd_cell RV.out (j := n - 1) (by omega)
        have hc2 := rd_cell RV.out (j := n - 2) (by omega)
        rw [Nat.zero_add] at hc1 hc2
        have hb1 := hV1d.getD BB_pos (n - 1)
        have hb2 := hV1d.getD BB_pos (n - 2)
        have hplen : (part U j n).length = n + 1 := part_len (by omega)
        have hplt := hR.r.part_lt HD.out
        have htop := top_le hplen hV1len (by omega) hV1d (by rw [HeV.out]; exact hplt)
        have hpd := part_dig hR.r.udig j n
        have HG := Lib.hid (fun w v (h : RdN w v (part U j n)) => guess_any (top := V1.getD (n - 1) 0) (next := V1.getD (n - 2) 0) h hpd (by omega) (by omega) (by omega) hb1 hb2 (by rw [hplen, Nat.add_sub_cancel]; exact htop))
        have HUp := Lib.hid (fun g => guess_up2 (P := part U j n) (V := V1) (n := n) (g := g) h2 hplen hV1len hpd (by rw [HeV.out]; exact hplt))
        have HJN := Lib.hid hjn
        have hj0 : j < jn := by omega
        have hjl : jn ≤ lu := by omega
        clear hjn
        clear hR hplt htop hF
        generalize V1.getD (n - 1) 0 = top at *
        generalize V1.getD (n - 2) 0 = next at *
        obtain ⟨n1, hn1I, hn1⟩ : ∃ x : Nat, (n : Int) - 1 = (x : Int) ∧ n - 1 = x := ⟨n - 1, by omega, rfl⟩
        obtain ⟨n2, hn2I, hn2⟩ : ∃ x : Nat, (n : Int) - 2 = (x : Int) ∧ n - 2 = x := ⟨n - 2, by omega, rfl⟩
        have hn1l : n1 < n := by omega
        have hn2l : n2 < n := by omega
        have hnW1 : IntKind.i64.wrap (n1 : Int) = (n1 : Int) := by rw [IntKind.wrap_i64]; omega
        have hnW2 : IntKind.i64.wrap (n2 : Int) = (n2 : Int) := by rw [IntKind.wrap_i64]; omega
        rw [hn1] at hc1
        rw [hn2] at hc2
        clear hn1 hn2
        go_wp2
        go_still_tail 11, (by kernel_rfl)
        change wpList _ _ _ _ _ wr.drew
        clear hc1 hc2
        have hRs := HRd.out.fr.size
        have HW2 := Lib.hid (show Below wr.heap.size wr wr.drew from below_drewN (Below.refl _ _) 1)
        generalize wr.drew = w2 at *
        go_wp2_with (first
          | (go_at_call 102; (with_reducible refine (HG.out _ _ RP.out).mono ?_); rintro e w3 ⟨gd, rfl, hgd, hb3⟩; have HGD := Lib.hid hgd; have hg64 := hgd.1; have UO3 := Lib.hid (own_below HRd.out.uo hb3); have RV3 := Lib.hid ((HRV.out.keep HRd.out.fr HNS.out).below hb3); clear hgd)
          | (go_at_call 103; (with_reducible refine (HTk.out _ _ _ UO3.out (RV3.out.mono (fun g _ h => HNV.out g h)) hg64).mono ?_); rintro e w4 ⟨c, rfl, hte⟩; have HTE := Lib.hid hte; clear hte))
        have hup := HUp.out _ HGD.out
        rw [HeV.out] at hup
        obtain ⟨X0, hX0⟩ := HR.out.r |> fun hr => PutIn.first hr HD.out hV1len HeV.out hup HTE.out
        have HX0 := Lib.hid hX0
        have HBB := Lib.hid (HW2.out.trans (hb3.mono HW2.out.size))
        clear hup hX0 HG HUp RP HTk RV HRd HGD UO3
        go_loopw [13, 14] (fun dv wv wr' => ∃ (q : Nat) (c : Bool) (X : List Nat), dv = L64 q ∧ wv = .bool c ∧ q < BB ∧ PutIn w3 BU lu w1.heap.size (B * 2 ^ s) (val BB U) j n U q c X wr') (fun dv _ _ => (intOf dv).toNat)
        case atStart => exact ⟨gd, c, X0, rfl, rfl, hg64, HX0.out⟩
        case round =>
          obtain ⟨q, c, X, rfl, rfl, hq, hP⟩ := hrel
          have HP := Lib.hid hP
          have hq64 : q < 18446744073709551616 := hq
          cases c with
          | true =>
            have RV4 := Lib.hid (RV3.out.keep hP.o.fr HNV.out)
            have hXl := hP.o.len
            have hXd := hP.o.dig
            have HPk2 := Lib.hid (HPk.out _ _ X hP.o.own (RV4.out.mono (fun g _ h => HNV.out g h)) (by omega) hXd)
            have hq0 := hP.pos (by omega)
            clear hP hXd
            obtain ⟨q', hq1, hqI⟩ : ∃ q' : Nat, q - 1 = q' ∧ IntKind.u64.wrap ((q : Int) - 1) = (q' : Int) := ⟨q - 1, rfl, by rw [IntKind.wrap_u64]; omega⟩
            have HQ1 := Lib.hid hq1
            have HQ2 := Lib.hid (show q' < BB ∧ q' < q from ⟨by omega, by omega⟩)
            clear hq1
            go_wp2_with (go_at_call 104; (with_reducible refine HPk2.out.mono ?_); rintro e w5 ⟨c2, rfl, hpe⟩; have HPE := Lib.hid hpe; clear hpe)
            go_round
            case rel =>
              obtain ⟨-, X', hX'⟩ := HP.out.back (by omega) hV1len HeV.out HPE.out
              rw [HQ1.out] at hX'
              exact ⟨q', !c2, X', rfl, rfl, HQ2.out.1, hX'⟩
            case measure => simp [intOf]; have := HQ2.out.2; omega
          | false =>
            have QO := own_fr_at (own_below HR.out.qo HBB.out) hP.o.fr (fun h => by omega)
            have hca := QO.cellAt j (by omega)
            rw [List.getElem?_map, List.getElem?_eq_getElem (by omega), Option.map_some, ← getD_lt] at hca
            have hfr := QO.frozenAt j
            have hjq : j < qn := by omega
            have HN := Lib.hid (HR.out.next HBB.out hP hq HD.out (by omega))
            clear hP QO
            generalize Q.getD j 0 = o at *
            go_wp2
            go_round
            case rel => exact ⟨j, _, _, _, rfl, by omega, HN.out⟩
            case measure => simp [intOf]
end Go.Proofs.YtflkemcoomgoiaaDoor
