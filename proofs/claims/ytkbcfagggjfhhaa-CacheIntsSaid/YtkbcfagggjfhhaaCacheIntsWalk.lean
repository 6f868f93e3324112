/- CacheInts returns true and leaves what was there: the walk. Conditions: none beyond what a small number and a slice of numbers are. -/
import Derived.Test.YtkbcfagggjfhhaaCacheIntsLaw
import Derived.Deep.QuietTactic
import Derived.BigQuiet
namespace Go.Proofs.Ytkbcfagggjfhhaa.CInts
set_option maxRecDepth 100000
open Go.RowKit Go.Proofs.Ytkbcfagggjfhhaa Go.Proofs.Ytkbcfagggjfhhaa.Cus
set_option linter.unusedSimpArgs false

set_option maxRecDepth 100000 in
set_option maxHeartbeats 2000000 in
theorem walk (m : Int) (a1 : Option Addr) (len1 cap1 : Nat) (z1 : List Int) (w : World) (hm : (Lit.int .u8 m).wf = true) (w1 : IsRow .u16 w a1 len1 cap1 z1) :
    Calls Try.prog 5 #[.int .u8 m, .slice a1 len1 cap1] w fun e w' => e = .returned (.bool true) ∧ Below w.heap.size w w' := by
  replace hm := CAlive.u8_in hm
  obtain ⟨m, rfl⟩ := Int.eq_ofNat_of_zero_le hm.1
  replace hm : m ≤ 255 := by omega
  have hle := w1.le
  by_cases h200 : 200 < len1
  · have hd : decide (200 < (len1 : Int)) = true := decide_eq_true (by omega)
    go_enter Try.func5, Try.ntmps5
    go_wp2_with
      (first
        | (go_at_call 6; (with_reducible refine (CAlive.alive_any _).mono ?_); rintro e w1 ⟨rfl, B1⟩)
        | fail)
    go_ret
    exact ⟨rfl, B1⟩
  have hd : decide (200 < (len1 : Int)) = false := decide_eq_false (by omega)
  obtain ⟨lv, hlv⟩ : ∃ lv : Nat → Int, lv = fun j => z1[j]?.getD 0 := ⟨_, rfl⟩
  have hv : ∀ i, i < len1 → ∃ b off, a1 = some ⟨b, off, none⟩ ∧ b < w.heap.size ∧ w.cell? ⟨b, off + i, none⟩ = some (.int .u16 (lv i)) ∧ (Lit.int .u16 (lv i)).wf = true := fun i hi => by
    rw [hlv]; exact w1.view i hi
  have Hv := Lib.hid hv; clear hv w1 hlv
  have w1m : IntKind.i64.wrap (1 + (m : Int)) = 1 + (m : Int) := by rw [IntKind.wrap_i64]; omega
  have HA : Hid (∀ wa : World, w.heap.size ≤ wa.heap.size → Calls Try.prog 21 #[.int .i64 (1 + (m : Int))] wa fun e w' => ∃ c, e = .returned (.tuple #[.pointer (some ⟨c, 0, none⟩), .int .i64 0]) ∧ K (fun k => k < w.heap.size) c (m + 1) [] w' ∧ Below wa.heap.size wa w') := Lib.hid (fun wa hs => by
    rw [show (1 + (m : Int)) = ((m + 1 : Nat) : Int) by omega]
    exact new_kv (by omega) (by omega) (CAlive.low w hs))
  go_enter Try.func5, Try.ntmps5
  go_wp2_with
    (first
      | (go_at_call 6; (with_reducible refine (CAlive.alive_any _).mono ?_); rintro e w1 ⟨rfl, B1⟩)
      | (go_at_call 21; (with_reducible refine (HA.out _ B1.size).mono ?_); rintro e w2 ⟨c, rfl, k2, hb⟩; have B2 := B1.trans (hb.mono B1.size); clear HA)
      | fail)
  go_loopw [8] (fun i wr => ∃ k : Nat, k ≤ len1 ∧ i = .int .i64 k ∧ ∃ M, K (fun k => k < w.heap.size) c (m + 1) M wr ∧ Last (fun j => .int .u16 (lv j)) k (m + 1) (M.map Prod.fst) ∧ (∀ x ∈ M, ∃ kk : Int, x.1 = .int .u16 kk) ∧ Below w.heap.size w wr) (fun i _ => len1 - (intOf i).toNat)
  case atStart => exact ⟨0, Nat.zero_le _, rfl, [], k2, Last.start _ _ _, by simp, B2⟩
  case round =>
    obtain ⟨k, hk, rfl, M, hK, hL, hM, hB⟩ := hrel
    by_cases hkn : k < len1
    · obtain ⟨b, off, rfl, hbw, hcell0, hwf⟩ := Hv.out k hkn
      have hcell := (hB.cell (p := ⟨b, off + k, none⟩) hbw).trans hcell0
      have wk1 : IntKind.i64.wrap ((k : Int) + 1) = (k : Int) + 1 := by rw [IntKind.wrap_i64]; omega
      have hlM := hK.len.1
      have HP := Lib.hid (ask_any (by omega) hK (CAlive.low w hB.size) hwf)
      clear hK hcell0
      go_wp2_with
        (first
          | (go_at_call 22; (with_reducible refine HP.out.mono ?_); rintro e w4 ⟨u, v, k', g, M', rfl, hP, k4, hf⟩; have B4 := hB.trans (hf.below hB.size (fun _ hk hn => hn hk)); have hl4 := k4.len; have hl4' : ¬ (1 + (m : Int)) < (M'.length : Int) := by omega)
          | (go_at_call 24; (with_reducible refine (len_kv k4).mono ?_); rintro e w5 ⟨rfl, rfl⟩)
          | fail)
      go_roundw
      case rel =>
        refine ⟨k + 1, hkn, rfl, M', k4, hL.step hlM hP, ?_, B4⟩
        intro x hx
        rcases PutP.keys hP hx with rfl | h
        · exact ⟨_, rfl⟩
        · exact hM x h
      case measure => simp [intOf]; omega
    · obtain rfl : k = len1 := by omega
      have HK := Lib.hid (keys_kv hK hM)
      have hnd := hK.nodup
      obtain ⟨xs, hxs⟩ : ∃ xs, xs = M.map Prod.fst := ⟨_, rfl⟩
      have hxl : M.length = xs.length := by rw [hxs, List.length_map]
      have hxu : ∀ q, q < xs.length → ∃ y : Int, xs[q]? = some (.int .u16 y) := fun q hq => by
        have hq' : q < M.length := by omega
        obtain ⟨y, hy⟩ := hM M[q] (List.getElem_mem hq')
        refine ⟨y, ?_⟩
        rw [hxs, List.getElem?_map, List.getElem?_eq_getElem hq', Option.map_some, hy]
      rw [← hxs] at hnd hL HK
      rw [hxl] at HK
      have hlen : xs.length ≤ 256 := by have := hK.len; omega
      clear hK hM hxs hxl
      go_wp2_with
        (first
          | (go_at_call 25; (with_reducible refine HK.out.mono ?_); rintro e w4 ⟨v, rfl, hown, hb⟩; have B4 := hB.trans (hb.mono hB.size); obtain ⟨ak, kc, rfl, hcells, -⟩ := own_view hown)
          | fail)
      have Hc := Lib.hid hcells; have Hu := Lib.hid hxu
      clear hown hcells hxu HK
      go_loopw [10] (fun i wr => ∃ i' : Nat, i' ≤ xs.length ∧ i = .int .i64 i' ∧ Below w4.heap.size w4 wr) (fun i _ => xs.length - (intOf i).toNat)
      case atStart => exact ⟨0, Nat.zero_le _, rfl, Below.refl _ _⟩
      case round =>
        obtain ⟨i, hi, rfl, hBr⟩ := hrel
        by_cases hin : i < xs.length
        · have wi1 : IntKind.i64.wrap ((i : Int) + 1) = (i : Int) + 1 := by rw [IntKind.wrap_i64]; omega
          go_wp2
          go_loopw [11] (fun q wq => ∃ q' : Nat, q' ≤ i ∧ q = .int .i64 q' ∧ Below w4.heap.size w4 wq) (fun q _ => i - (intOf q).toNat)
          case atStart => exact ⟨0, Nat.zero_le _, rfl, hBr⟩
          case round =>
            obtain ⟨q, hq, rfl, hBq⟩ := hrel
            by_cases hqi : q < i
            · have wq1 : IntKind.i64.wrap ((q : Int) + 1) = (q : Int) + 1 := by rw [IntKind.wrap_i64]; omega
              obtain ⟨g, rfl, hci⟩ := Hc.out i hin
              obtain ⟨g2, hg2, hcq⟩ := Hc.out q (by omega)
              obtain rfl : g = g2 := by injection hg2 with hg2; injection hg2
              obtain ⟨x, hx⟩ := Hu.out i hin
              obtain ⟨y, hy⟩ := Hu.out q (by omega)
              rw [hx] at hci
              rw [hy] at hcq
              have hci' := (hBq.cell (p := ⟨g, i, none⟩) (World.block_lt_of_cell? _ _ hci)).trans hci
              have hcq' := (hBq.cell (p := ⟨g, q, none⟩) (World.block_lt_of_cell? _ _ hcq)).trans hcq
              have hne : x ≠ y := fun e => by
                subst e
                rw [List.getElem?_eq_getElem hin] at hx
                rw [List.getElem?_eq_getElem (by omega : q < xs.length)] at hy
                exact (List.pairwise_iff_getElem.1 hnd) q i _ _ hqi ((Option.some.inj hy).trans (Option.some.inj hx).symm)
              have hqn : q < xs.length := by omega
              have hne' : (x == y) = false := beq_false_of_ne hne
              clear hci hcq hx hy hne
              go_upto_region 22 with fail
              go_quiet (fail)
              go_wp2
              go_roundw
              case rel => exact ⟨q + 1, hqi, rfl, below_drewN hBq _⟩
              case measure => simp [intOf]; omega
            · obtain rfl : q = i := by omega
              go_wp2
              go_roundw
              case rel => exact ⟨q + 1, hin, rfl, hBq⟩
              case measure => simp [intOf]; omega
        · obtain rfl : i = xs.length := by omega
          have wsub : IntKind.i64.wrap ((k : Int) - (1 + (m : Int))) = (k : Int) - (1 + (m : Int)) := by rw [IntKind.wrap_i64]; omega
          go_wp2
          all_goals
            go_loopw [12] (fun i wr => ∃ i' : Nat, i' ≤ k ∧ i = .int .i64 i' ∧ k - i' ≤ m + 1 ∧ Below w4.heap.size w4 wr) (fun i _ => k - (intOf i).toNat)
          all_goals first
            | (case atStart => exact ⟨k - (m + 1), by omega, by congr 1; omega, by omega, hBr⟩)
            | (case round =>
                obtain ⟨i, hi, rfl, him, hBr2⟩ := hrel
                by_cases hik : i < k
                · have wi1 : IntKind.i64.wrap ((i : Int) + 1) = (i : Int) + 1 := by rw [IntKind.wrap_i64]; omega
                  have hin := hL i hik him
                  replace hin := List.mem_of_mem_take hin
                  obtain ⟨b, off, rfl, hbw, hcell0, -⟩ := Hv.out i hik
                  have hcellw := (B4.cell (p := ⟨b, off + i, none⟩) hbw).trans hcell0
                  have hb4 : b < w4.heap.size := Nat.lt_of_lt_of_le hbw B4.size
                  clear hcell0
                  go_wp2
                  go_loopw [13, 14] (fun f q wq => ∃ (q' : Nat) (fb : Bool), q' ≤ xs.length ∧ q = .int .i64 q' ∧ f = .bool fb ∧ (fb = false → ∀ j, j < q' → xs[j]? ≠ some (.int .u16 (lv i))) ∧ Below w4.heap.size w4 wq) (fun _ q _ => xs.length - (intOf q).toNat)
                  case atStart => exact ⟨0, false, Nat.zero_le _, rfl, rfl, fun _ j hj => by omega, hBr2⟩
                  case round =>
                    obtain ⟨q, fb, hq, rfl, rfl, hf, hBq⟩ := hrel
                    have hcw := (hBq.cell (p := ⟨b, off + i, none⟩) hb4).trans hcellw
                    by_cases hqx : q < xs.length
                    · have wq1 : IntKind.i64.wrap ((q : Int) + 1) = (q : Int) + 1 := by rw [IntKind.wrap_i64]; omega
                      obtain ⟨g, rfl, hcq⟩ := Hc.out q hqx
                      obtain ⟨y, hy⟩ := Hu.out q hqx
                      rw [hy] at hcq
                      have hcq' := (hBq.cell (p := ⟨g, q, none⟩) (World.block_lt_of_cell? _ _ hcq)).trans hcq
                      clear hcq
                      cases fb with
                      | true =>
                        go_upto_region 31 with fail
                        go_quiet (fail)
                        go_wp2
                        go_roundw
                        case rel => exact ⟨q + 1, true, hqx, rfl, rfl, (fun h => Bool.noConfusion h), below_drewN hBq _⟩
                        case measure => simp [intOf]; omega
                      | false =>
                        obtain ⟨e, he⟩ : ∃ e, (y == lv i) = e := ⟨_, rfl⟩
                        go_upto_region 31 with fail
                        go_quiet (fail)
                        go_wp2
                        go_roundw
                        case rel =>
                          refine ⟨q + 1, e, hqx, rfl, rfl, (fun h j hj => ?_), below_drewN hBq _⟩
                          subst h
                          by_cases hjq : j = q
                          · subst hjq
                            rw [hy]
                            intro hh
                            injection hh with hh
                            injection hh with _ hh
                            rw [hh, beq_self_eq_true] at he
                            cases he
                          · exact hf rfl j (by omega)
                        case measure => simp [intOf]; omega
                    · obtain rfl : q = xs.length := by omega
                      obtain rfl : fb = true := by
                        cases fb with
                        | true => rfl
                        | false =>
                          obtain ⟨j, hj, hx⟩ := List.getElem_of_mem hin
                          exact absurd (by rw [List.getElem?_eq_getElem hj, hx]) (hf rfl j hj)
                      go_wp2
                      go_roundw
                      case rel => exact ⟨i + 1, hik, rfl, by omega, hBq⟩
                      case measure => simp [intOf]; omega
                · obtain rfl : i = k := by omega
                  go_wp2_with
                    (first
                      | (go_at_call 26; (with_reducible refine put_nil.mono ?_); rintro e w5 ⟨rfl, rfl⟩)
                      | (go_at_call 27; (with_reducible refine find_nil.mono ?_); rintro e w6 ⟨rfl, rfl⟩)
                      | (go_at_call 25; (with_reducible refine keys_nil.mono ?_); rintro e w7 ⟨rfl, rfl⟩)
                      | (go_at_call 24; (with_reducible refine len_nil.mono ?_); rintro e w8 ⟨rfl, rfl⟩)
                      | (go_at_call 22; (with_reducible refine (ask_nil _ _).mono ?_); rintro e w9 ⟨rfl, rfl⟩)
                      | (go_at_call 22; (with_reducible refine (ask_nil_nil _ _).mono ?_); rintro e w9 ⟨rfl, rfl⟩)
                      | fail)
                  go_ret
                  exact ⟨rfl, B4.trans (hBr2.mono B4.size)⟩)
end Go.Proofs.Ytkbcfagggjfhhaa.CInts
