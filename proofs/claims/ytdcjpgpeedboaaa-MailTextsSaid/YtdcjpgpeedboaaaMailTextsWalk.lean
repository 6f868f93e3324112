/- MailTexts returns true and leaves what was there: the walk. Conditions: none beyond what two slices of strings are. -/
import Derived.Test.YtdcjpgpeedboaaaMailAlive
import Derived.Test.YtdcjpgpeedboaaaMailstring
import Derived.Test.YtdcjpgpeedboaaaCommon
import Derived.Outline
import Derived.BigQuiet
import Derived.Deep.QuietTactic
import Derived.WalkLawsBesides
namespace Go.Proofs.Ytdcjpgpeedboaaa.MTexts
open Go.Conc Go.RowKit Go.Proofs.Ytdcjpgpeedboaaa Go.Proofs.Ytdcjpgpeedboaaa.Mstring

/-- What the walk is told of a slice of strings that came in. -/
def IsStrs (w : World) (a : Option Addr) (ss : List ByteArray) : Prop :=
  ∀ i, i < ss.length → ∃ b off, a = some ⟨b, off, none⟩ ∧ b < w.heap.size ∧ ∃ s, w.cell? ⟨b, off + i, none⟩ = some (.string s) ∧ ss.take (i + 1) = ss.take i ++ [s] ∧ Hid (ss[i]? = some s)

/-- The first loop's relation. -/
def Rel (b cu cp : Nat) (us ps : List ByteArray) (w : World) (k : Nat) (wr : World) : Prop :=
  Box T b cu cp 60 60 ((us.take k).map enc) ((ps.take k).map enc) ((us.take k).length + (ps.take k).length) 0 wr ∧ Below w.heap.size w wr

theorem take_past (l : List ByteArray) (k : Nat) (h : ¬ k < l.length) : l.take (k + 1) = l.take k := by
  rw [List.take_of_length_le (by omega), List.take_of_length_le (by omega)]

set_option maxRecDepth 100000 in
set_option maxHeartbeats 1000000 in
theorem walk (a0 a1 : Option Addr) (c0 c1 : Nat) (us ps : List ByteArray) (w : World) (w0 : IsStrs w a0 us) (w1 : IsStrs w a1 ps) (m0 : us.length ≤ 9223372036854775807) (m1 : ps.length ≤ 9223372036854775807) :
    Calls Try.prog 5 #[.slice a0 us.length c0, .slice a1 ps.length c1] w fun e w' => e = .returned (.bool true) ∧ Below w.heap.size w w' := by
  by_cases h1 : 60 < us.length
  · have d1 : decide (60 < (us.length : Int)) = true := decide_eq_true (by omega)
    go_enter Try.func5, Try.ntmps5
    go_wp2_with (go_at_call 15; refine (MAlive.alive_any _).mono ?_; rintro e wa ⟨rfl, hba⟩)
    go_ret
    exact ⟨rfl, hba⟩
  have d1 : decide (60 < (us.length : Int)) = false := decide_eq_false (by omega)
  by_cases h2 : 60 < ps.length
  · have d2 : decide (60 < (ps.length : Int)) = true := decide_eq_true (by omega)
    go_enter Try.func5, Try.ntmps5
    go_wp2_with (go_at_call 15; refine (MAlive.alive_any _).mono ?_; rintro e wa ⟨rfl, hba⟩)
    go_ret
    exact ⟨rfl, hba⟩
  have d2 : decide (60 < (ps.length : Int)) = false := decide_eq_false (by omega)
  have W0 := Lib.hid w0; have W1 := Lib.hid w1; clear w0 w1
  go_enter Try.func5, Try.ntmps5
  go_wp2_with (go_at_call 15; refine (MAlive.alive_any _).mono ?_; rintro e wa ⟨rfl, hba⟩)
  refine (new_ok 60 60 wa (by omega) (by omega)).mono ?_
  rintro e wb ⟨b, cu, cp, rfl, hbox0, hbb, hS0⟩
  have hB0 := hba.trans (hbb.mono hba.size)
  have hS : ∀ k, boxS b cu cp k → w.heap.size ≤ k := fun k hk => Nat.le_trans hba.size (hS0 k hk)
  have HS := Lib.hid hS; clear hS hS0
  go_wp2_with fail
  go_loopw [7] (fun j wr => ∃ k : Nat, k ≤ 60 ∧ j = .int .i64 k ∧ Rel b cu cp us ps w k wr) (fun j _ => 60 - (intOf j).toNat)
  case atStart => exact ⟨0, by omega, rfl, hbox0, hB0⟩
  case round =>
    obtain ⟨k, hk, rfl, hbox, hB⟩ := hrel
    have hu60 : (us.take k).length < 60 ∨ us.length ≤ k := by simp; omega
    have hp60 : (ps.take k).length < 60 ∨ ps.length ≤ k := by simp; omega
    have hcnt : (us.take k).length + (ps.take k).length ≤ 120 := by simp; omega
    have HU := Lib.hid hu60; have HP := Lib.hid hp60; have HC := Lib.hid hcnt; clear hu60 hp60 hcnt
    by_cases k0 : k < us.length
    · have e0 : decide ((k : Int) < (us.length : Int)) = true := decide_eq_true (by omega)
      obtain ⟨bb, off, rfl, hbw, s0, hc0, ht0, _⟩ := W0.out k k0
      have hu : ((us.take k).map enc).length < 60 := by rw [List.length_map]; exact HU.out.resolve_right (by omega)
      have Hu := Lib.hid hu; have Ht0 := Lib.hid ht0; have HC0 := Lib.hid hc0; clear hu ht0 hc0
      by_cases k1 : k < ps.length
      · have e1 : decide ((k : Int) < (ps.length : Int)) = true := decide_eq_true (by omega)
        obtain ⟨bb', off', rfl, hbw', s1, hc1, ht1, _⟩ := W1.out k k1
        have hcell1 := (hB.cell (p := ⟨bb', off' + k, none⟩) hbw').trans hc1
        have hp : ((ps.take k).map enc).length < 60 := by rw [List.length_map]; exact HP.out.resolve_right (by omega)
        have Hp := Lib.hid hp; have Ht1 := Lib.hid ht1; clear hp ht1 hc1
        go_wp2_with fail
        refine (put_plain_room (enc s1) hbox Hp.out (by have := HC.out; omega)).mono ?_
        rintro e w3 ⟨rfl, hbox3, hf3⟩
        have hB3 := hB.trans (hf3.below hB.size (fun j hj hs => by have := HS.out j hs; omega))
        have hcell0 := (hB3.cell (p := ⟨bb, off + k, none⟩) hbw).trans HC0.out
        go_wp2_with fail
        refine (put_urgent_room (enc s0) hbox3 Hu.out (by have := HC.out; omega)).mono ?_
        rintro e w4 ⟨rfl, hbox4, hf4⟩
        go_wp2_with fail
        go_roundw
        case rel =>
          refine ⟨k + 1, by omega, by go_num, ?_, hB3.trans (hf4.below hB3.size (fun j hj hs => by have := HS.out j hs; omega))⟩
          rw [Ht0.out, Ht1.out]
          simpa [Nat.add_assoc, Nat.add_comm, Nat.add_left_comm] using hbox4
        case measure => simp [intOf]; omega
      · have e1 : decide ((k : Int) < (ps.length : Int)) = false := decide_eq_false (by omega)
        have hcell0 := (hB.cell (p := ⟨bb, off + k, none⟩) hbw).trans HC0.out
        go_wp2_with fail
        refine (put_urgent_room (enc s0) hbox Hu.out (by have := HC.out; omega)).mono ?_
        rintro e w4 ⟨rfl, hbox4, hf4⟩
        go_wp2_with fail
        go_roundw
        case rel =>
          refine ⟨k + 1, by omega, by go_num, ?_, hB.trans (hf4.below hB.size (fun j hj hs => by have := HS.out j hs; omega))⟩
          rw [Ht0.out, take_past ps k k1]
          simpa [Nat.add_assoc, Nat.add_comm, Nat.add_left_comm] using hbox4
        case measure => simp [intOf]; omega
    · have e0 : decide ((k : Int) < (us.length : Int)) = false := decide_eq_false (by omega)
      by_cases k1 : k < ps.length
      · have e1 : decide ((k : Int) < (ps.length : Int)) = true := decide_eq_true (by omega)
        obtain ⟨bb', off', rfl, hbw', s1, hc1, ht1, _⟩ := W1.out k k1
        have hcell1 := (hB.cell (p := ⟨bb', off' + k, none⟩) hbw').trans hc1
        have hp : ((ps.take k).map enc).length < 60 := by rw [List.length_map]; exact HP.out.resolve_right (by omega)
        have Hp := Lib.hid hp; have Ht1 := Lib.hid ht1; clear hp ht1 hc1
        go_wp2_with fail
        refine (put_plain_room (enc s1) hbox Hp.out (by have := HC.out; omega)).mono ?_
        rintro e w3 ⟨rfl, hbox3, hf3⟩
        go_wp2_with fail
        go_roundw
        case rel =>
          refine ⟨k + 1, by omega, by go_num, ?_, hB.trans (hf3.below hB.size (fun j hj hs => by have := HS.out j hs; omega))⟩
          rw [Ht1.out, take_past us k k0]
          simpa [Nat.add_assoc, Nat.add_comm, Nat.add_left_comm] using hbox3
        case measure => simp [intOf]; omega
      · have e1 : decide ((k : Int) < (ps.length : Int)) = false := decide_eq_false (by omega)
        have hU : us.take k = us := List.take_of_length_le (by omega)
        have hP : ps.take k = ps := List.take_of_length_le (by omega)
        have hbox' : Box T b cu cp 60 60 (us.map enc) (ps.map enc) (us.length + ps.length) 0 wr := by rw [hU, hP] at hbox; exact hbox
        clear hU hP hbox
        have hlt2 : ∀ j, boxS b cu cp j → j < wr.heap.size := fun j hj => hbox'.lt hj
        have Hlt2 := Lib.hid hlt2; clear hlt2
        obtain ⟨L, hL⟩ : ∃ L, L = us ++ ps := ⟨_, rfl⟩
        have hLn : L.length = us.length + ps.length := by rw [hL]; simp
        have hL120 : L.length ≤ 120 := by omega
        have hne : ((L.length : Int) != (us.length : Int) + (ps.length : Int)) = false := by rw [hLn]; simp
        have HL := Lib.hid hL; have HLn := Lib.hid hLn; clear hL hLn
        go_wp2_with (go_at_call 25; refine (drain_any hbox' (by omega) (by simp; omega) Hlt2.out).mono ?_; rw [← HL.out]; rintro e w3 ⟨v, rfl, hown, hbox3, hf3⟩; obtain ⟨av, cv, rfl, hcells, _⟩ := own_view hown)
        have Hcells := Lib.hid hcells; clear hcells hown
        have hB3 := hB.trans (hf3.below hB.size (fun j hj hs => by have := HS.out j hs; omega))
        go_loopw [9] (fun i wx => ∃ j nd : Nat, j ≤ L.length ∧ i = .int .i64 j ∧ wx = w3.drewN nd) (fun i _ => L.length - (intOf i).toNat)
        case atStart => exact ⟨0, 0, Nat.zero_le _, rfl, rfl⟩
        case round =>
          obtain ⟨j, nd, hj, rfl, rfl⟩ := hrel
          by_cases hjl : j < L.length
          · obtain ⟨g, rfl, hcell⟩ := Hcells.out j hjl
            rw [List.getElem?_map] at hcell
            by_cases hju : j < us.length
            · have f1 : decide ((j : Int) < (us.length : Int)) = true := decide_eq_true (by omega)
              have f2 : decide (us.length ≤ j) = false := decide_eq_false (by omega)
              obtain ⟨bb, off, rfl, hbw, s0, hc0, _, hs0⟩ := W0.out j hju
              have hs : L[j]? = some s0 := by rw [HL.out, List.getElem?_append_left hju]; exact hs0.out
              rw [hs, Option.map_some] at hcell
              have hcell0 := (hB3.cell (p := ⟨bb, off + j, none⟩) hbw).trans hc0
              clear hc0 hs hs0
              go_wp2_with fail
              go_quiet (fail)
              go_wp2_with fail
              go_roundw
              case rel => exact ⟨j + 1, _, by omega, by go_num, rfl⟩
              case measure => simp [intOf]; omega
            · have f1 : decide ((j : Int) < (us.length : Int)) = false := decide_eq_false (by omega)
              have f2 : decide (us.length ≤ j) = true := decide_eq_true (by omega)
              have hju' : us.length ≤ j := by omega
              have hjp : j - us.length < ps.length := by have := HLn.out; omega
              obtain ⟨bb, off, rfl, hbw, s0, hc0, _, hs0⟩ := W1.out (j - us.length) hjp
              have hs : L[j]? = some s0 := by rw [HL.out, List.getElem?_append_right hju']; exact hs0.out
              rw [hs, Option.map_some] at hcell
              have hcell0 := (hB3.cell (p := ⟨bb, off + (j - us.length), none⟩) hbw).trans hc0
              clear hc0 hs hs0
              go_wp2_with fail
              go_quiet (fail)
              go_wp2_with fail
              go_roundw
              case rel => exact ⟨j + 1, _, by omega, by go_num, rfl⟩
              case measure => simp [intOf]; omega
          · have hj' : j = L.length := by omega
            go_wp2_with (first
              | (go_at_call 26; refine (take_nil).mono ?_; rintro e w4 ⟨rfl, rfl⟩)
              | (go_at_call 27; refine (len_nil).mono ?_; rintro e w4 ⟨rfl, rfl⟩)
              | (go_at_call 28; refine (counts_nil).mono ?_; rintro e w4 ⟨rfl, rfl⟩)
              | (go_at_call 24; refine (put_nil _ _).mono ?_; rintro e w4 ⟨rfl, rfl⟩)
              | (go_at_call 25; refine (drain_nil _).mono ?_; rintro e w4 ⟨rfl, rfl⟩))
            go_ret
            exact ⟨rfl, below_drewN hB3 nd⟩
end Go.Proofs.Ytdcjpgpeedboaaa.MTexts
