/- MailPlays returns true and leaves what was there: the walk. Conditions: none beyond what two ints and a slice of calls are. -/
import Derived.Test.YtdcjpgpeedboaaaMailAlive
import Derived.Test.YtdcjpgpeedboaaaMailStep
import Derived.Test.YtdcjpgpeedboaaaCommon
import Derived.Deep.DeepCutAuto
import Derived.Deep.CutBlock
import Derived.Deep.RegionHeldLaw
import Derived.BigQuiet
import Derived.Deep.QuietTactic
namespace Go.Proofs.Ytdcjpgpeedboaaa.MPlays
open Go.Conc Go.RowKit Go.Proofs.Ytdcjpgpeedboaaa Go.Proofs.Ytdcjpgpeedboaaa.Mint
open Go.Proofs.Ytdcjpgpeedboaaa.MDo (I DoOk stepD do_any later1 heap_later1)

/-- What the walk is told of a slice of calls that came in: pairs of ints. -/
def IsActs (w : World) (a : Option Addr) (len : Nat) : Prop :=
  ∀ i, i < len → ∃ b off kd nn, a = some ⟨b, off, none⟩ ∧ b < w.heap.size ∧ w.cell? ⟨b, off + i * 2, none⟩ = some (.int .i64 kd) ∧ w.cell? ⟨b, off + i * 2 + 1, none⟩ = some (.int .i64 nn)

/-- The slices of the document's box lie in no block of the mailbox, nor in the document's box itself. -/
def Far (b cu cp bm : Nat) (g : Nat) : Prop := ¬ boxS b cu cp g ∧ g ≠ bm

/-- The loop's relation. -/
def Rel (b cu cp bm ku kp : Nat) (w : World) (k : Nat) (s10 s11 : Value) (wr : World) : Prop :=
  ∃ (U P : List Int) (ci co : Nat) (vU vP : Value), s10 = .int .i64 ci ∧ s11 = .int .i64 co ∧ Box T b cu cp ku kp (U.map enc) (P.map enc) ci co wr ∧
    wr.heap[bm]? = some (.cells #[vU, vP, .int .i64 (ku : Int), .int .i64 (kp : Int)] 40 (0, 0)) ∧ Rd (Far b cu cp bm) wr vU (U.map I) ∧ Rd (Far b cu cp bm) wr vP (P.map I) ∧
    ci ≤ k ∧ co ≤ k ∧ U.length ≤ k ∧ P.length ≤ k ∧ Below w.heap.size w wr

set_option maxRecDepth 100000 in
set_option maxHeartbeats 2000000 in
theorem walk (u p : Int) (a2 : Option Addr) (len2 cap2 : Nat) (w : World) (w2 : IsActs w a2 len2) (hm : len2 ≤ 9223372036854775807) :
    Calls Try.prog 4 #[.int .i64 u, .int .i64 p, .slice a2 len2 cap2] w fun e w' => e = .returned (.bool true) ∧ Below w.heap.size w w' := by
  by_cases h200 : 200 < len2
  · go_enter Try.func4, Try.ntmps4
    go_wp2_with (go_at_call 15; refine (MAlive.alive_any _).mono ?_; rintro e wa ⟨rfl, hba⟩)
    go_ret
    exact ⟨rfl, hba⟩
  have hd : decide (200 < (len2 : Int)) = false := decide_eq_false (by omega)
  by_cases hok : (0 ≤ u ∧ u ≤ 4096) ∧ (0 ≤ p ∧ p ≤ 4096)
  · obtain ⟨⟨hu0, hu1⟩, hp0, hp1⟩ := hok
    have du0 : decide (u < 0) = false := decide_eq_false (by omega)
    have dp0 : decide (p < 0) = false := decide_eq_false (by omega)
    have du1 : decide (4096 < u) = false := decide_eq_false (by omega)
    have dp1 : decide (4096 < p) = false := decide_eq_false (by omega)
    obtain ⟨ku, rfl⟩ := Int.eq_ofNat_of_zero_le hu0
    obtain ⟨kp, rfl⟩ := Int.eq_ofNat_of_zero_le hp0
    have hv := Lib.hid w2; clear w2
    go_enter Try.func4, Try.ntmps4
    go_wp2_with (go_at_call 15; refine (MAlive.alive_any _).mono ?_; rintro e wa ⟨rfl, hba⟩)
    refine (new_ok ku kp wa (by omega) (by omega)).mono ?_
    rintro e wb ⟨b, cu, cp, rfl, hbox0, hbb, hS0⟩
    have hB0 := hba.trans (hbb.mono hba.size)
    have hS : ∀ k, boxS b cu cp k → w.heap.size ≤ k := fun k hk => Nat.le_trans hba.size (hS0 k hk)
    have HS := Lib.hid hS; clear hS hS0
    go_wp2_with fail
    have hbmn : ∀ g, boxS b cu cp g → g < wb.heap.size := fun g hg => hbox0.lt hg
    have hbm := wb.heap.size
    obtain ⟨bm, hbmd⟩ : ∃ bm, bm = wb.heap.size := ⟨_, rfl⟩
    have hw2 : w.heap.size ≤ bm := by rw [hbmd]; exact hB0.size
    have hfar0 : ∀ g, bm < g → Far b cu cp bm g := fun g hg => ⟨fun hs => by have := hbmn g hs; omega, by omega⟩
    have HF := Lib.hid hfar0; have HBN : Hid (∀ g, boxS b cu cp g → g < bm) := Lib.hid (by rw [hbmd]; exact hbmn); clear hfar0 hbmn hbm
    have hat : (wb.alloc (Obj.cells #[Value.slice none 0 0, Value.slice none 0 0, Value.int IntKind.i64 ↑ku, Value.int IntKind.i64 ↑kp] 40)).heap[bm]? = some (.cells #[Value.slice none 0 0, Value.slice none 0 0, Value.int IntKind.i64 ↑ku, Value.int IntKind.i64 ↑kp] 40 (0, 0)) := by rw [hbmd]; exact heap_alloc_new wb _
    have hba0 : Box T b cu cp ku kp [] [] 0 0 (wb.alloc (Obj.cells #[Value.slice none 0 0, Value.slice none 0 0, Value.int IntKind.i64 ↑ku, Value.int IntKind.i64 ↑kp] 40)) := hbox0.keep (S := fun _ => False) ((Fr.refl _ _).alloc _) (fun _ _ h => h)
    have hBa : Below w.heap.size w (wb.alloc (Obj.cells #[Value.slice none 0 0, Value.slice none 0 0, Value.int IntKind.i64 ↑ku, Value.int IntKind.i64 ↑kp] 40)) := hB0.alloc hB0.size _
    have Hat := Lib.hid hat; clear hat
    rw [← hbmd]
    clear hbmd hbox0
    go_loopw [10, 11, 12] (fun i o j wr => ∃ k : Nat, k ≤ len2 ∧ j = .int .i64 k ∧ bm < wr.heap.size ∧ Rel b cu cp bm ku kp w k i o wr) (fun _ _ j _ => len2 - (intOf j).toNat)
    case atStart => exact ⟨0, by omega, rfl, lt_of_at Hat.out, [], [], 0, 0, _, _, rfl, rfl, hba0, Hat.out, Rd.nil _ _, Rd.nil _ _, by omega, by omega, by simp, by simp, hBa⟩
    case round =>
      clear hba0 Hat hBa
      obtain ⟨k, hk, rfl, hbs, U, P, ci, co, vU, vP, rfl, rfl, hbox, hblk, hU, hP, hci, hco, hUl, hPl, hB⟩ := hrel
      have x0 := cell_at (j := 0) hblk rfl
      have x1 := cell_at (j := 1) hblk rfl
      have x2 := cell_at (j := 2) (v := .int .i64 (ku : Int)) hblk rfl
      have x3 := cell_at (j := 3) (v := .int .i64 (kp : Int)) hblk rfl
      have Hblk := Lib.hid hblk; clear hblk
      by_cases hlt : k < len2
      · obtain ⟨bb, off, kd, nn, rfl, hbw, hc0, hc1⟩ := hv.out k hlt
        have d0 := (hB.cell (p := ⟨bb, off + k * 2, none⟩) hbw).trans hc0
        have d1 := (hB.cell (p := ⟨bb, off + k * 2 + 1, none⟩) hbw).trans hc1
        clear hc0 hc1
        have hfr1 : Fr (fun _ => False) wr (wr.alloc (.cells #[.int .i64 kd, .int .i64 nn] 42)) := (Fr.refl _ _).alloc _
        have hact := heap_alloc_new wr (.cells #[.int .i64 kd, .int .i64 nn] 42)
        have Hact := Lib.hid hact; clear hact
        go_wp2_with fail
        refine (do_any (N := Far b cu cp bm) (ku := ku) (kp := kp) (hU.keep hfr1 (fun _ _ h => h)) (hP.keep hfr1 (fun _ _ h => h)) (by omega) (by omega) (fun g hg => HF.out g (by have := hfr1.size; omega))).mono ?_
        have hsl := MDo.stepD_len ku kp kd nn U P
        obtain ⟨r, hr⟩ : ∃ r, r = stepD ku kp kd nn U P := ⟨_, rfl⟩
        rw [← hr] at hsl ⊢
        obtain ⟨hsl1, hsl2⟩ := hsl
        have Hr := Lib.hid hr; clear hr
        rintro e w1 ⟨vU', vP', rfl, hU', hP', hb1⟩
        have hf1 : Fr (fun _ => False) wr w1 := hfr1.trans (Fr.of_below hb1)
        have hs1 : wr.heap.size + 1 ≤ w1.heap.size := by have := hb1.size; rw [World.size_alloc] at this; exact this
        have hact1 : w1.heap[wr.heap.size]? = some (.cells #[.int .i64 kd, .int .i64 nn] 42 (0, 0)) := (Fr.of_below (S := fun _ => False) hb1).at Hact.out (fun h => h)
        have hblk1 := hf1.at Hblk.out (fun h => h)
        have hbox1 := hbox.keep hf1 (fun _ _ h => h)
        have hB1 : Below w.heap.size w w1 := hB.trans (hf1.below (by omega) (fun _ _ h => h))
        obtain ⟨aU, zU, rfl, -⟩ := id hU'
        obtain ⟨aP, zP, rfl, -⟩ := id hP'
        rw [List.length_map] at hU' hP'
        have y0 := later1 (cell_at (j := 0) hblk1 rfl)
        have y1 := later1 (cell_at (j := 1) hblk1 rfl)
        have y2 := later1 (cell_at (j := 2) (v := .int .i64 (ku : Int)) hblk1 rfl)
        have y3 := later1 (cell_at (j := 3) (v := .int .i64 (kp : Int)) hblk1 rfl)
        have yf := fun o j => free_at (j := j) (heap_later1 hblk1 o)
        have Hact1 := Lib.hid hact1; have Hblk1 := Lib.hid hblk1; clear hact1 hblk1
        go_upto_region 17 with fail
        go_cut [] (fun wx => wx.heap[wr.heap.size]? = some (.cells #[.int .i64 kd, .int .i64 nn] 42 (0, 0)) ∧ wx.heap[bm]? = some (.cells #[.slice aU r.U.length zU, .slice aP r.P.length zP, .int .i64 (ku : Int), .int .i64 (kp : Int)] 40 (0, 0)) ∧
          Box T b cu cp ku kp (U.map enc) (P.map enc) ci co wx ∧ Rd (Far b cu cp bm) wx (.slice aU r.U.length zU) (r.U.map I) ∧ Rd (Far b cu cp bm) wx (.slice aP r.P.length zP) (r.P.map I) ∧ bm < wx.heap.size ∧ Below w.heap.size w wx)
        case first =>
          go_wp2_with fail
          go_meet
          have F4 : Fr (fun k => k = bm) w1 _ := (((((Fr.refl (fun k => k = bm) w1).alloc (.cells #[.slice aU r.U.length zU, .slice aP r.P.length zP, .int .i64 (ku : Int), .int .i64 (kp : Int)] 40)).setCell (p := ⟨bm, 0, none⟩) rfl (.slice aU r.U.length zU)).setCell (p := ⟨bm, 1, none⟩) rfl (.slice aP r.P.length zP)).setCell (p := ⟨bm, 2, none⟩) rfl (.int .i64 (ku : Int))).setCell (p := ⟨bm, 3, none⟩) rfl (.int .i64 (kp : Int))
          refine ⟨F4.at Hact1.out (by omega), heap_setC (heap_setC (heap_setC (heap_setC (heap_later1 Hblk1.out _) _) _) _) _, hbox1.keep F4 (fun j hj he => by have := HBN.out j hj; omega), hU'.keep F4 (fun g hg => hg.2), hP'.keep F4 (fun g hg => hg.2), by have := F4.size; omega, hB1.trans (F4.below hB1.size (fun j hj he => by omega))⟩
        case rest =>
          clear y0 y1 y2 y3 yf hbox1 hU' hP' hB1 d0 d1 x0 x1 x2 x3 hU hP hB hbox Hblk Hact Hact1 Hblk1
          obtain ⟨g1, g2, hbox, hU, hP, hbs2, hB⟩ := hcut
          have e0 := cell_at (j := 0) (v := .int .i64 kd) g1 rfl
          have e1 := cell_at (j := 1) (v := .int .i64 nn) g1 rfl
          have G2 := Lib.hid g2; clear g1 g2
          go_upto_block 2 with fail
          go_cut [10, 11] (fun i o wx => Rel b cu cp bm ku kp w (k + 1) i o wx ∧ bm < wx.heap.size)
          case first =>
            by_cases h0 : kd = 0
            · subst h0
              by_cases hf : kp ≤ P.length
              · have hr := Hr.out
                simp [stepD, hf] at hr
                subst hr
                go_wp2_with (go_at_call 18; refine (put_plain_full (enc nn) hbox (by rw [List.length_map]; exact hf)).mono ?_; rintro e w4 ⟨rfl, rfl⟩)
                go_meet
                exact ⟨⟨U, P, ci, co, _, _, rfl, rfl, hbox, G2.out, hU, hP, by omega, by omega, by omega, by omega, hB⟩, hbs2⟩
              · have hr := Hr.out
                simp [stepD, hf] at hr
                subst hr
                go_wp2_with (go_at_call 18; refine (put_plain_room (enc nn) hbox (by rw [List.length_map]; omega) (by omega)).mono ?_; rintro e w4 ⟨rfl, hbox4, hf4⟩)
                go_meet
                refine ⟨⟨U, (P ++ [nn]), ci + 1, co, _, _, by go_num, rfl, by simpa using hbox4, hf4.at G2.out (fun hs => by have := HBN.out _ hs; omega), hU.keep hf4 (fun g hg => hg.1), hP.keep hf4 (fun g hg => hg.1), by omega, by omega, by first | omega | (simp; omega), by first | omega | (simp; omega), hB.trans (hf4.below hB.size (fun j hj hs => by have := HS.out j hs; omega))⟩, by have := hf4.size; omega⟩
            by_cases h1 : kd = 1
            · subst h1
              by_cases hf : ku ≤ U.length
              · have hr := Hr.out
                simp [stepD, hf] at hr
                subst hr
                go_wp2_with (go_at_call 18; refine (put_urgent_full (enc nn) hbox (by rw [List.length_map]; exact hf)).mono ?_; rintro e w4 ⟨rfl, rfl⟩)
                go_meet
                exact ⟨⟨U, P, ci, co, _, _, rfl, rfl, hbox, G2.out, hU, hP, by omega, by omega, by omega, by omega, hB⟩, hbs2⟩
              · have hr := Hr.out
                simp [stepD, hf] at hr
                subst hr
                go_wp2_with (go_at_call 18; refine (put_urgent_room (enc nn) hbox (by rw [List.length_map]; omega) (by omega)).mono ?_; rintro e w4 ⟨rfl, hbox4, hf4⟩)
                go_meet
                refine ⟨⟨(U ++ [nn]), P, ci + 1, co, _, _, by go_num, rfl, by simpa using hbox4, hf4.at G2.out (fun hs => by have := HBN.out _ hs; omega), hU.keep hf4 (fun g hg => hg.1), hP.keep hf4 (fun g hg => hg.1), by omega, by omega, by first | omega | (simp; omega), by first | omega | (simp; omega), hB.trans (hf4.below hB.size (fun j hj hs => by have := HS.out j hs; omega))⟩, by have := hf4.size; omega⟩
            have t0 : (kd == 0) = false := by simpa using h0
            have t1 : (kd == 1) = false := by simpa using h1
            have hr := Hr.out
            simp only [stepD, if_neg h0, if_neg h1] at hr
            clear h0 h1
            rcases U with _ | ⟨x, U⟩
            · rcases P with _ | ⟨x, P⟩
              · subst hr
                go_wp2_with (go_at_call 19; refine (take_none hbox).mono ?_; rintro e w4 ⟨rfl, rfl⟩)
                go_meet
                exact ⟨⟨[], [], ci, co, _, _, rfl, rfl, hbox, G2.out, hU, hP, by omega, by omega, by omega, by omega, hB⟩, hbs2⟩
              · subst hr
                go_wp2_with (go_at_call 19; refine (take_plain (enc x) hbox (by omega)).mono ?_; rintro e w4 ⟨rfl, hbox4, hf4⟩)
                go_meet
                refine ⟨⟨[], P, ci, co + 1, _, _, rfl, by go_num, hbox4, hf4.at G2.out (fun hs => by have := HBN.out _ hs; omega), hU.keep hf4 (fun g hg => hg.1), hP.keep hf4 (fun g hg => hg.1), by omega, by omega, by simp, by simp at hPl; omega, hB.trans (hf4.below hB.size (fun j hj hs => by have := HS.out j hs; omega))⟩, by have := hf4.size; omega⟩
            · subst hr
              go_wp2_with (go_at_call 19; refine (take_urgent (enc x) hbox (by omega)).mono ?_; rintro e w4 ⟨rfl, hbox4, hf4⟩)
              go_meet
              refine ⟨⟨U, P, ci, co + 1, _, _, rfl, by go_num, hbox4, hf4.at G2.out (fun hs => by have := HBN.out _ hs; omega), hU.keep hf4 (fun g hg => hg.1), hP.keep hf4 (fun g hg => hg.1), by omega, by omega, by simp at hUl; omega, by omega, hB.trans (hf4.below hB.size (fun j hj hs => by have := HS.out j hs; omega))⟩, by have := hf4.size; omega⟩
          case rest =>
            clear hU hP hB hbox G2 e0 e1 hUl hPl hci hco Hr hsl1 hsl2
            obtain ⟨⟨U1, P1, c1, o1, v1, v2, rfl, rfl, hbox, hblk, hU, hP, hci, hco, hUl, hPl, hB⟩, hbs3⟩ := hcut
            have q0 := cell_at (j := 0) hblk rfl
            have q1 := cell_at (j := 1) hblk rfl
            obtain ⟨aU1, zU1, rfl, -⟩ := id hU
            obtain ⟨aP1, zP1, rfl, -⟩ := id hP
            simp only [List.length_map] at hU hP hblk q0 q1
            have Hblk := Lib.hid hblk; clear hblk
            have HU := Lib.hid hU; have HP := Lib.hid hP; clear hU hP
            go_wp2_with fail
            refine (len_any hbox).mono ?_
            rintro e w5 ⟨rfl, nd, rfl⟩
            go_wp2_with fail
            refine (counts_any (hbox.keep (Fr.of_drewN wc nd) (fun _ _ h => h))).mono ?_
            rintro e w6 ⟨rfl, nd2, rfl⟩
            go_wp2_with fail
            go_roundw
            case rel =>
              have Fd := Fr.of_drewN wc (nd + nd2)
              exact ⟨k + 1, by omega, by go_num, hbs3, U1, P1, c1, o1, _, _, rfl, rfl, hbox.keep Fd (fun _ _ h => h), Fd.at Hblk.out (fun h => h), HU.out.keep Fd (fun _ _ h => h), HP.out.keep Fd (fun _ _ h => h), by omega, by omega, by omega, by omega, below_drewN hB (nd + nd2)⟩
            case measure => simp [intOf]; omega
      · have hk' : k = len2 := by omega
        subst hk'
        obtain ⟨aU, zU, rfl, -⟩ := id hU
        obtain ⟨aP, zP, rfl, -⟩ := id hP
        simp only [List.length_map] at hU hP x0 x1
        clear x2 x3
        obtain ⟨L, hL⟩ : ∃ L, L = U ++ P := ⟨_, rfl⟩
        have hLl : L.length ≤ 400 := by rw [hL]; simp; omega
        have hLe : L.length = U.length + P.length := by rw [hL]; simp
        have HL := Lib.hid hL; have HLe := Lib.hid hLe; clear hL hLe
        have hlt2 : ∀ j, boxS b cu cp j → j < wr.heap.size := fun j hj => hbox.lt hj
        have Hlt2 := Lib.hid hlt2; clear hlt2
        obtain ⟨i0, hi, hz0, hz1, hz2⟩ := info_parts MDo.info3
        have hzs : (Value.int IntKind.i64 0).cells.size = 1 := rfl
        go_wp2_with fail
        refine (drain_any hbox (by omega) (by have := HLe.out; simp; omega) Hlt2.out).mono ?_
        rw [← HL.out]
        rintro e w3 ⟨v, rfl, hown, hbox3, hf3⟩
        obtain ⟨av, cv, rfl, hcells, _⟩ := own_view hown
        have hbv : Below w.heap.size w w3 := hB.trans (hf3.below hB.size (fun j hj hs => by have := HS.out j hs; omega))
        have r0 := hf3.at_cell x0 (fun hs => by have := HBN.out _ hs; exact absurd this (Nat.lt_irrefl _))
        have r1 := hf3.at_cell x1 (fun hs => by have := HBN.out _ hs; exact absurd this (Nat.lt_irrefl _))
        have r0' := later1 r0; have r1' := later1 r1
        have hU3 := hU.keep hf3 (fun g hg => hg.1)
        have hP3 := hP.keep hf3 (fun g hg => hg.1)
        have Hcells := Lib.hid hcells; have HU3 := Lib.hid hU3; have HP3 := Lib.hid hP3; clear hcells hown hU hP hU3 hP3
        go_upto_region 35 with fail
        go_region_held_law (fun w' => w'.cell? ⟨bm, 0, none⟩ = some (.slice aU U.length zU) ∧ w'.cell? ⟨bm, 1, none⟩ = some (.slice aP P.length zP)) (first | exact ⟨r0, r1⟩ | exact ⟨r0' _, r1' _⟩ | exact ⟨s0, s1⟩ | exact ⟨t0, t1⟩) (first
          | ((refine step_append_rd (o := ⟨some 161, _, _, _, _, _⟩) (N := Far b cu cp bm) (xs := []) (ys := U.map I) (n := 0) rfl (.tmp 158) (.tmp 160) 31 rfl w3.heap.size 3 i0 (.int .i64 0) 8 Try.underlying31 hi hz0 hz1 hz2 hzs rfl rfl ?_ ?_ ?_ ?_ ?_ ?_ ?_); (exact own_zero (MDo.hat1 _ _) (Nat.le_refl _)); (exact HU3.out.keep (S := fun _ => False) (((Fr.refl _ _).alloc _).drew) (fun _ _ h => h)); (simp [Value.oneCell']); (simp [maxLen]; omega); (simp; omega); (first | (focus (simp; done)) | (focus (simp; omega))); intro v4 w4 own4 hg4; (have f4 : Fr (fun _ => False) w3 w4 := (by refine (((Fr.refl _ _).alloc _).drew).grown hg4 ?_; intro k hk; simp [Value.ownBlock, Act.eval] at hk; omega)); have s0 := f4.at_cell r0 (fun h => h); have s1 := f4.at_cell r1 (fun h => h); clear hg4)
          | ((refine step_append_rd (o := ⟨some 164, _, _, _, _, _⟩) (N := Far b cu cp bm) (xs := [] ++ U.map I) (ys := P.map I) (n := 0 + (U.map I).length) rfl (.tmp 161) (.tmp 163) 31 rfl w3.heap.size 3 i0 (.int .i64 0) 8 Try.underlying31 hi hz0 hz1 hz2 hzs rfl rfl ?_ ?_ ?_ ?_ ?_ ?_ ?_); (exact own4); (exact HP3.out.keep f4 (fun _ _ h => h)); (simp [Value.oneCell']); (simp [maxLen]; omega); (simp; omega); (exact f4.size); intro v5 w5 own5 hg5; (have f5 : Fr (fun _ => False) w3 w5 := f4.grown hg5 (fun k hk => (own4.lt k hk).1)); have t0 := f5.at_cell r0 (fun h => h); have t1 := f5.at_cell r1 (fun h => h); clear hg5))
        have own5' : w5.ownsRow w3.heap.size 3 1 v5 L.length (L.map I) := by rw [HL.out]; simpa using own5
        have hbe : Below w.heap.size w w5 := hbv.trans (f5.below hbv.size (fun _ _ h => h))
        clear own5 own4 s0 s1 t0 t1 r0 r1 r0' r1'
        obtain ⟨a5, c5, rfl, hc5, _⟩ := own_view own5'
        have HC5 := Lib.hid hc5; clear hc5 own5'
        go_wp2_with fail
        go_loopw [27] (fun i wx => ∃ j nd : Nat, j ≤ L.length ∧ i = .int .i64 j ∧ wx = w5.drewN nd) (fun i _ => L.length - (intOf i).toNat)
        case atStart => exact ⟨0, 0, Nat.zero_le _, rfl, rfl⟩
        case round =>
          obtain ⟨j, nd, hj, rfl, rfl⟩ := hrel
          by_cases hjl : j < L.length
          · obtain ⟨g, rfl, hcell⟩ := Hcells.out j hjl
            obtain ⟨g', rfl, hcell'⟩ := HC5.out j hjl
            rw [List.getElem?_map, List.getElem?_eq_getElem hjl, Option.map_some] at hcell hcell'
            generalize L[j] = y at hcell hcell'
            have hcell5 := f5.at_cell hcell (fun h => h)
            clear hcell
            go_wp2_with fail
            go_quiet (fail)
            go_wp2_with fail
            go_roundw
            case rel => exact ⟨j + 1, _, by omega, by go_num, rfl⟩
            case measure => simp [intOf]; omega
          · go_wp2_with fail
            go_ret
            exact ⟨rfl, below_drewN hbe nd⟩
  · have hbad : decide (u < 0) = true ∨ (decide (u < 0) = false ∧ decide (p < 0) = true) ∨ (decide (u < 0) = false ∧ decide (p < 0) = false ∧ decide (4096 < u) = true) ∨ (decide (u < 0) = false ∧ decide (p < 0) = false ∧ decide (4096 < u) = false ∧ decide (4096 < p) = true) := by
      simp only [decide_eq_true_eq, decide_eq_false_iff_not]; omega
    rcases hbad with d0 | ⟨d0, d1⟩ | ⟨d0, d1, d2⟩ | ⟨d0, d1, d2, d3⟩
    all_goals
      go_enter Try.func4, Try.ntmps4
      go_wp2_with (go_at_call 15; refine (MAlive.alive_any _).mono ?_; rintro e wa ⟨rfl, hba⟩)
      refine (new_bad u p wa hok).mono ?_
      rintro e wb ⟨rfl, rfl⟩
      go_wp2_with fail
      go_ret
      exact ⟨rfl, hba⟩
end Go.Proofs.Ytdcjpgpeedboaaa.MPlays
