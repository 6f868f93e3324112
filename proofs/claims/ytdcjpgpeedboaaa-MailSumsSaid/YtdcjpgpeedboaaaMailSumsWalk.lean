/- MailSums returns true and leaves what was there: the walk. Conditions: none beyond what a uint8 and a slice of uint16 are. -/
import Derived.Test.YtdcjpgpeedboaaaMailAlive
import Derived.Test.YtdcjpgpeedboaaaMailuint16
import Derived.Test.YtdcjpgpeedboaaaCommon
import Derived.Deep.DeepCutAuto
import Derived.Deep.RegionWith
import Derived.Outline
namespace Go.Proofs.Ytdcjpgpeedboaaa.MSums
open Go.Conc Go.RowKit Go.Proofs.Ytdcjpgpeedboaaa Go.Proofs.Ytdcjpgpeedboaaa.Muint16

/-- Of what is in a box: numbers of 16 bits. -/
def U16 (l : List Int) : Prop := ∀ x ∈ l, 0 ≤ x ∧ x ≤ 65535

theorem U16.snoc {l : List Int} (h : U16 l) {x : Int} (h0 : 0 ≤ x) (h1 : x ≤ 65535) : U16 (l ++ [x]) := by
  intro y hy
  rcases List.mem_append.1 hy with hy | hy
  · exact h y hy
  · simp at hy; subst hy; exact ⟨h0, h1⟩

/-- The loop's relation. -/
def Rel (b cu cp room : Nat) (w : World) (k : Nat) (i o s : Value) (wr : World) : Prop :=
  ∃ (U P : List Int) (ci co : Nat), i = .int .i64 ci ∧ o = .int .i64 co ∧ s = .int .u64 (isum U + isum P) ∧ Box T b cu cp room room (U.map enc) (P.map enc) ci co wr ∧
    ci = co + (U.length + P.length) ∧ ci ≤ k ∧ U.length ≤ room ∧ P.length ≤ room ∧ U16 U ∧ U16 P ∧ Below w.heap.size w wr

set_option maxRecDepth 100000 in
set_option maxHeartbeats 1000000 in
theorem walk (a0 : Int) (a1 : Option Addr) (len1 cap1 : Nat) (z1 : List Int) (w : World) (w0 : (Lit.int .u8 a0).wf = true) (w1 : IsRow .u16 w a1 len1 cap1 z1) :
    Calls Try.prog 6 #[.int .u8 a0, .slice a1 len1 cap1] w fun e w' => e = .returned (.bool true) ∧ Below w.heap.size w w' := by
  have hle := w1.le
  by_cases h200 : 200 < len1
  · go_enter Try.func6, Try.ntmps6
    go_wp2_with (go_at_call 15; refine (MAlive.alive_any _).mono ?_; rintro e wa ⟨rfl, hba⟩)
    go_ret
    exact ⟨rfl, hba⟩
  · have h0 : 0 ≤ a0 ∧ a0 ≤ 255 := by simpa [Lit.wf, IntKind.min, IntKind.max, IntKind.bits, IntKind.signed] using w0
    obtain ⟨room, rfl⟩ := Int.eq_ofNat_of_zero_le h0.1
    have hroom : room ≤ 255 := by omega
    clear h0 w0
    have hv : ∀ i, i < len1 → ∃ b off x, a1 = some ⟨b, off, none⟩ ∧ b < w.heap.size ∧ w.cell? ⟨b, off + i, none⟩ = some (.int .u16 x) ∧ 0 ≤ x ∧ x ≤ 65535 := fun i hi => by
      obtain ⟨b, off, h1, h2, h3, h4⟩ := w1.view i hi
      exact ⟨b, off, _, h1, h2, h3, by simpa [Lit.wf, IntKind.min, IntKind.max, IntKind.bits, IntKind.signed] using h4⟩
    clear w1
    have hd : decide (200 < (len1 : Int)) = false := decide_eq_false (by omega)
    have Hv := Lib.hid hv; clear hv
    go_enter Try.func6, Try.ntmps6
    go_wp2_with (go_at_call 15; refine (MAlive.alive_any _).mono ?_; rintro e wa ⟨rfl, hba⟩)
    refine (new_ok room room wa (by omega) (by omega)).mono ?_
    rintro e wb ⟨b, cu, cp, rfl, hbox0, hbb, hS0⟩
    have hB0 := hba.trans (hbb.mono hba.size)
    have hS : ∀ k, boxS b cu cp k → w.heap.size ≤ k := fun k hk => Nat.le_trans hba.size (hS0 k hk)
    have HS := Lib.hid hS; clear hS hS0
    go_wp2_with fail
    go_loopw [7, 8, 9, 10] (fun i o s j wr => ∃ k : Nat, k ≤ len1 ∧ j = .int .i64 k ∧ Rel b cu cp room w k i o s wr) (fun _ _ _ j _ => len1 - (intOf j).toNat)
    case atStart => exact ⟨0, by omega, rfl, [], [], 0, 0, rfl, rfl, rfl, hbox0, rfl, by omega, by simp, by simp, by simp [U16], by simp [U16], hB0⟩
    case round =>
      obtain ⟨k, hk, rfl, U, P, ci, co, rfl, rfl, rfl, hbox, hci, hck, hU, hP, hU16, hP16, hB⟩ := hrel
      have Hci := Lib.hid hci
      have hco : co ≤ ci := by omega
      clear hci
      by_cases hlt : k < len1
      · obtain ⟨bb, off, x, rfl, hbw, hcell0, hx0, hx1⟩ := Hv.out k hlt
        have hcell := (hB.cell (p := ⟨bb, off + k, none⟩) hbw).trans hcell0
        clear hcell0
        go_upto_if 46 with (fail)
        go_cut [7, 8, 9] (fun i o s wx => Rel b cu cp room w (k + 1) i o s wx)
        case first =>
          by_cases h3 : x % 3 = 0
          · rcases U with _ | ⟨y, U⟩
            · rcases P with _ | ⟨y, P⟩
              · go_wp2_with fail
                refine (take_none hbox).mono ?_
                rintro e w3 ⟨rfl, rfl⟩
                go_wp2_with fail
                go_meet
                exact ⟨[], [], ci, co, rfl, rfl, rfl, hbox, Hci.out, by omega, hU, hP, hU16, hP16, hB⟩
              · have hy := hP16 y (by simp)
                have hs := isum_bd 65535 P (fun z hz => hP16 z (by simp [hz]))
                have hPl : P.length ≤ 255 := by simp at hP; omega
                have hb : y ≤ isum [] + isum (y :: P) ∧ isum [] + isum (y :: P) ≤ 100000000 := by simp only [isum]; omega
                obtain ⟨hb1, hb2⟩ := hb
                go_wp2_with fail
                refine (take_plain (enc y) hbox (by omega)).mono ?_
                rintro e w3 ⟨rfl, hbox3, hf3⟩
                go_wp2_with fail
                go_meet
                refine ⟨[], P, ci, co + 1, rfl, by go_num, ?_, hbox3, ?_, by omega, hU, by simp at hP; omega, hU16, fun z hz => hP16 z (by simp [hz]), ?_⟩
                · simp [isum]; omega
                · have := Hci.out; simp at this ⊢; omega
                · exact hB.trans (hf3.below hB.size (fun j hj hs => by have := HS.out j hs; omega))
            · have hy := hU16 y (by simp)
              have hs := isum_bd 65535 U (fun z hz => hU16 z (by simp [hz]))
              have hs' := isum_bd 65535 P hP16
              have hUl : U.length ≤ 255 := by simp at hU; omega
              have hb : y ≤ isum (y :: U) + isum P ∧ isum (y :: U) + isum P ≤ 100000000 := by simp only [isum]; omega
              obtain ⟨hb1, hb2⟩ := hb
              go_wp2_with fail
              refine (take_urgent (enc y) hbox (by omega)).mono ?_
              rintro e w3 ⟨rfl, hbox3, hf3⟩
              go_wp2_with fail
              go_meet
              refine ⟨U, P, ci, co + 1, rfl, by go_num, ?_, hbox3, ?_, by omega, by simp at hU; omega, hP, fun z hz => hU16 z (by simp [hz]), hP16, ?_⟩
              · simp [isum]; omega
              · have := Hci.out; simp at this ⊢; omega
              · exact hB.trans (hf3.below hB.size (fun j hj hs => by have := HS.out j hs; omega))
          · have hsU := isum_bd 65535 U hU16
            have hsP := isum_bd 65535 P hP16
            have hbS : 0 ≤ isum U + isum P ∧ isum U + isum P ≤ 100000000 := by omega
            by_cases h2 : x % 2 = 0
            · have ht : (x.tmod 2 == 0) = true := by rw [Int.tmod_eq_emod_of_nonneg hx0]; simp; omega
              by_cases hfull : U.length < room
              · go_upto_region 18 with fail
                go_region_with (go_at_call 31; refine (put_urgent_room (U := U.map enc) (Pl := P.map enc) (enc x) hbox.drew (by simpa using hfull) (by omega)).mono ?_; rintro e w3 ⟨rfl, hbox3, hf3⟩; have hcell3 := hf3.at_cell (p := ⟨bb, off + k, none⟩) hcell (fun hs => absurd (show w.heap.size ≤ bb from HS.out _ hs) (by omega)))
                all_goals
                  go_wp2_with fail
                  go_meet
                  refine ⟨(U ++ [x]), P, ci + 1, co, by go_num, rfl, ?_, by simpa using hbox3, ?_, by omega, by first | omega | (simp; omega), by first | omega | (simp; omega), hU16.snoc hx0 hx1, hP16, ?_⟩
                  · simp [isum_append, isum]; omega
                  · have := Hci.out; simp; omega
                  · exact hB.trans ((Fr.of_drew hf3).below hB.size (fun j hj hs => by have := HS.out j hs; omega))
              · go_upto_region 18 with fail
                go_region_with (go_at_call 31; refine (put_urgent_full (U := U.map enc) (Pl := P.map enc) (enc x) hbox.drew (by simp; omega)).mono ?_; rintro e w3 ⟨rfl, rfl⟩)
                all_goals
                  go_wp2_with fail
                  go_meet
                  exact ⟨U, P, ci, co, rfl, rfl, rfl, hbox.drew, Hci.out, by omega, hU, hP, hU16, hP16, hB.drew⟩
            · have ht : (x.tmod 2 == 0) = false := by rw [Int.tmod_eq_emod_of_nonneg hx0]; simp; omega
              by_cases hfull : P.length < room
              · go_upto_region 18 with fail
                go_region_with (go_at_call 31; refine (put_plain_room (U := U.map enc) (Pl := P.map enc) (enc x) hbox.drew (by simpa using hfull) (by omega)).mono ?_; rintro e w3 ⟨rfl, hbox3, hf3⟩; have hcell3 := hf3.at_cell (p := ⟨bb, off + k, none⟩) hcell (fun hs => absurd (show w.heap.size ≤ bb from HS.out _ hs) (by omega)))
                all_goals
                  go_wp2_with fail
                  go_meet
                  refine ⟨U, (P ++ [x]), ci + 1, co, by go_num, rfl, ?_, by simpa using hbox3, ?_, by omega, by first | omega | (simp; omega), by first | omega | (simp; omega), hU16, hP16.snoc hx0 hx1, ?_⟩
                  · simp [isum_append, isum]; omega
                  · have := Hci.out; simp; omega
                  · exact hB.trans ((Fr.of_drew hf3).below hB.size (fun j hj hs => by have := HS.out j hs; omega))
              · go_upto_region 18 with fail
                go_region_with (go_at_call 31; refine (put_plain_full (U := U.map enc) (Pl := P.map enc) (enc x) hbox.drew (by simp; omega)).mono ?_; rintro e w3 ⟨rfl, rfl⟩)
                all_goals
                  go_wp2_with fail
                  go_meet
                  exact ⟨U, P, ci, co, rfl, rfl, rfl, hbox.drew, Hci.out, by omega, hU, hP, hU16, hP16, hB.drew⟩
        case rest =>
          obtain ⟨U, P, ci, co, rfl, rfl, rfl, hbox, hci, hck, hU, hP, hU16, hP16, hB⟩ := hcut
          have Hci := Lib.hid hci
          have hsub : ((U.length : Int) + (P.length : Int) != (ci : Int) - (co : Int)) = false := by rw [hci]; simp; omega
          have hd1 : decide ((room : Int) < (U.length : Int)) = false := decide_eq_false (by omega)
          have hd2 : decide ((room : Int) < (P.length : Int)) = false := decide_eq_false (by omega)
          have hco : co ≤ ci := by omega
          clear hci
          go_wp2_with (go_at_call 32; refine (len_any hbox).mono ?_; rintro e w3 ⟨rfl, nd, rfl⟩)
          go_roundw
          case rel => exact ⟨k + 1, by omega, by go_num, U, P, ci, co, rfl, rfl, rfl, hbox.keep (Fr.of_drewN wc nd) (fun _ _ h => h), Hci.out, hck, hU, hP, hU16, hP16, below_drewN hB nd⟩
          case measure => simp [intOf]; omega
      · have hk' : k = len1 := by omega
        subst hk'
        have hsU := isum_bd 65535 U hU16
        have hsP := isum_bd 65535 P hP16
        have hbS : 0 ≤ isum U + isum P ∧ isum U + isum P ≤ 100000000 := by omega
        have hlt2 : ∀ j, boxS b cu cp j → j < wr.heap.size := fun j hj => hbox.lt hj
        have Hlt2 := Lib.hid hlt2; clear hlt2
        obtain ⟨L, hL⟩ : ∃ L, L = U ++ P := ⟨_, rfl⟩
        have hL16 : U16 L := by rw [hL]; exact fun z hz => (List.mem_append.1 hz).elim (hU16 z) (hP16 z)
        have hLs : isum U + isum P = isum L := by rw [hL, isum_append]
        have hLn : ci = co + L.length := by rw [Hci.out, hL]; simp
        have hL510 : L.length ≤ 510 := by rw [hL]; simp; omega
        have hsub : ((L.length : Int) == (ci : Int) - (co : Int)) = true := by rw [hLn]; simp; omega
        have hsum : ((co : Int) + (L.length : Int) == (ci : Int)) = true := by rw [hLn]; simp
        have HL := Lib.hid hL; have HLs := Lib.hid hLs; clear hL hLs hLn
        go_wp2_with (go_at_call 33; refine (drain_any hbox (by omega) (by simp; omega) Hlt2.out).mono ?_; rw [← HL.out]; rintro e w3 ⟨v, rfl, hown, hbox3, hf3⟩; obtain ⟨av, cv, rfl, hcells, _⟩ := own_view hown)
        have Hcells := Lib.hid hcells; clear hcells hown
        go_loop [9, 17] (fun s i => ∃ j : Nat, j ≤ L.length ∧ i = .int .i64 j ∧ s = .int .u64 (isum (L.drop j))) (fun _ i => L.length - (intOf i).toNat)
        case atStart => exact ⟨0, Nat.zero_le _, rfl, by rw [HLs.out]; rfl⟩
        case round =>
          obtain ⟨j, hj, rfl, rfl⟩ := hrel
          have hsd := isum_bd 65535 (L.drop j) (fun z hz => hL16 z (List.mem_of_mem_drop hz))
          have hld : ((L.drop j).length : Int) ≤ 510 := by simp; omega
          by_cases hjl : j < L.length
          · obtain ⟨g, rfl, hcell⟩ := Hcells.out j hjl
            have hstep := isum_drop L j hjl
            have hsd' := isum_bd 65535 (L.drop (j + 1)) (fun z hz => hL16 z (List.mem_of_mem_drop hz))
            have hz := hL16 (L[j]?.getD 0) (by rw [List.getElem?_eq_getElem hjl]; exact List.getElem_mem hjl)
            rw [List.getElem?_map, List.getElem?_eq_getElem hjl, Option.map_some, ← Option.getD_some (a := L[j]) (b := 0), ← List.getElem?_eq_getElem hjl] at hcell
            generalize L[j]?.getD 0 = y at hstep hz hcell
            have hge : y ≤ isum (L.drop j) := by omega
            have Hst := Lib.hid hstep; clear hstep
            go_wp2
            go_round
            case rel => exact ⟨j + 1, by omega, by go_num, by have := Hst.out; go_num⟩
            case measure => simp [intOf]; omega
          · have hj' : j = L.length := by omega
            subst hj'
            have hz : isum (L.drop L.length) = 0 := by simp [isum]
            have hz' : (isum (L.drop L.length) == 0) = true := by rw [hz]; rfl
            clear hz
            go_wp2_with (go_at_call 34; refine (counts_any hbox3).mono ?_; rintro e w4 ⟨rfl, nd, rfl⟩)
            go_ret
            exact ⟨rfl, below_drewN (hB.trans (hf3.below hB.size (fun j hj hs => by have := HS.out j hs; omega))) nd⟩
end Go.Proofs.Ytdcjpgpeedboaaa.MSums
