/- CacheTurns returns true and leaves what was there: the walk. Conditions: none beyond what two small numbers are. -/
import Derived.Test.YtkbcfagggjfhhaaCacAlive
import Derived.Test.YtkbcfagggjfhhaaKvii
namespace Go.Proofs.Ytkbcfagggjfhhaa.CTurns
set_option maxRecDepth 100000
open Go.RowKit Go.Proofs.Ytkbcfagggjfhhaa Go.Proofs.Ytkbcfagggjfhhaa.Cii
set_option linter.unusedSimpArgs false

theorem own_view {w : World} {base : Nat} {e : TypeId} {v : Value} {n : Nat} {xs : List Value} (h : w.ownsRow base e 1 v n xs) (hn : 0 < n) : ∃ g k, v = .slice (some ⟨g, 0, none⟩) n k ∧ w.cell? ⟨g, 0, none⟩ = xs[0]? := by
  rcases id h.2 with ⟨rfl, h0⟩ | ⟨g, cap, cur, rfl, -⟩
  · omega
  · exact ⟨g, cap, rfl, by simpa using h.cellAt 0 (by omega)⟩

set_option maxRecDepth 100000 in
set_option maxHeartbeats 2000000 in
theorem walk (m n : Int) (w : World) (hm : (Lit.int .u8 m).wf = true) (hn : (Lit.int .u8 n).wf = true) :
    Calls Try.prog 3 #[.int .u8 m, .int .u8 n] w fun e w' => e = .returned (.bool true) ∧ Below w.heap.size w w' := by
  replace hm := CAlive.u8_in hm
  replace hn := CAlive.u8_in hn
  obtain ⟨m, rfl⟩ := Int.eq_ofNat_of_zero_le hm.1
  obtain ⟨n, rfl⟩ := Int.eq_ofNat_of_zero_le hn.1
  replace hm : m ≤ 255 := by omega
  replace hn : n ≤ 255 := by omega
  by_cases h0 : m = 0
  · subst h0
    go_enter Try.func3, Try.ntmps3
    go_wp2_with
      (first
        | (go_at_call 6; (with_reducible refine (CAlive.alive_any _).mono ?_); rintro e w1 ⟨rfl, B1⟩)
        | fail)
    go_ret
    exact ⟨rfl, B1⟩
  have d0 : ((m : Int) == 0) = false := beq_false_of_ne (by omega)
  have dm : (m : Int) ≠ 0 := by omega
  have w1m : IntKind.i64.wrap (1 + (m : Int)) = 1 + (m : Int) := by rw [IntKind.wrap_i64]; omega
  have w1n : IntKind.i64.wrap (1 + (n : Int)) = 1 + (n : Int) := by rw [IntKind.wrap_i64]; omega
  have HA : Hid (∀ wa : World, w.heap.size ≤ wa.heap.size → Calls Try.prog 7 #[.int .i64 (1 + (m : Int))] wa fun e w' => ∃ c, e = .returned (.tuple #[.pointer (some ⟨c, 0, none⟩), .int .i64 0]) ∧ K (fun k => k < w.heap.size) c (m + 1) [] w' ∧ Below wa.heap.size wa w') := Lib.hid (fun wa hs => by
    rw [show (1 + (m : Int)) = ((m + 1 : Nat) : Int) by omega]
    exact new_kv (by omega) (by omega) (CAlive.low w hs))
  have HB := Lib.hid (fun c w1 h hs => put_add (N := fun k => k < w.heap.size) (c := c) (most := m + 1) (M := []) (w := w1) (kk := -1) (vv := 7) (by omega) h (CAlive.low w hs) (by decide) (by simp) (by simp))
  go_enter Try.func3, Try.ntmps3
  go_wp2_with
    (first
      | (go_at_call 6; (with_reducible refine (CAlive.alive_any _).mono ?_); rintro e w1 ⟨rfl, B1⟩)
      | (go_at_call 7; (with_reducible refine (HA.out _ B1.size).mono ?_); rintro e w2 ⟨c, rfl, k2, hb⟩; have B2 := B1.trans (hb.mono B1.size); clear HA)
      | (go_at_call 8; (with_reducible refine (HB.out _ _ k2 B2.size).mono ?_); rintro e w3 ⟨rfl, k3, hf⟩; have B3 := B2.trans (hf.below B2.size (fun _ hk hn => hn hk)); clear HB k2)
      | fail)
  go_loopw [7] (fun i wr => ∃ k : Nat, k ≤ n ∧ i = .int .i64 k ∧ ∃ M, K (fun k => k < w.heap.size) c (m + 1) ((.int .i64 (-1), .int .i64 7) :: M) wr ∧ (∀ x ∈ M, ∃ j : Nat, j < k ∧ x.1 = .int .i64 j) ∧ M.length = min m k ∧ Below w.heap.size w wr) (fun i _ => n - (intOf i).toNat)
  case atStart => exact ⟨0, Nat.zero_le _, rfl, [], k3, by simp, by simp, B3⟩
  case round =>
    obtain ⟨k, hk, rfl, M, hK, hM, hl, hB⟩ := hrel
    by_cases hkn : k < n
    · have w10 : IntKind.i64.wrap (10 * (k : Int)) = 10 * (k : Int) := by rw [IntKind.wrap_i64]; omega
      have wk1 : IntKind.i64.wrap ((k : Int) + 1) = (k : Int) + 1 := by rw [IntKind.wrap_i64]; omega
      have hkM : Value.int .i64 (k : Int) ∉ ((.int .i64 (-1), .int .i64 7) :: M : List (Value × Value)).map Prod.fst := by
        rw [List.map_cons, List.mem_cons]
        rintro (h | h)
        · injection h with _ h; omega
        · obtain ⟨x, hx, he⟩ := List.mem_map.1 h
          obtain ⟨j, hj, hxj⟩ := hM x hx
          rw [hxj] at he
          injection he with _ he; omega
      have hwf : (Lit.int .i64 (k : Int)).wf = true := Go.WalkArith.wf_i64 (by omega)
      rcases Nat.lt_or_ge M.length m with hlt | hge
      · have HP := Lib.hid (put_add (vv := 10 * (k : Int)) (by omega) hK (CAlive.low w hB.size) hwf hkM (by simp; omega))
        have HF := Lib.hid (fun w1 (h : K (fun k => k < w.heap.size) c (m + 1) ((.int .i64 (k : Int), .int .i64 (10 * (k : Int))) :: (.int .i64 (-1), .int .i64 7) :: M) w1) hs => find_kv (m1 := [(.int .i64 (k : Int), .int .i64 (10 * (k : Int)))]) (m2 := M) (w := w1) (kk := -1) (v := .int .i64 7) h (CAlive.low w hs))
        clear hK hkM
        go_wp2_with
          (first
            | (go_at_call 8; (with_reducible refine HP.out.mono ?_); rintro e w4 ⟨rfl, k4, hf⟩; have B4 := hB.trans (hf.below hB.size (fun _ hk hn => hn hk)))
            | (go_at_call 9; (with_reducible refine (HF.out _ k4 B4.size).mono ?_); rintro e w5 ⟨rfl, k5, hf⟩; have B5 := B4.trans (hf.below B4.size (fun _ hk hn => hn hk)))
            | fail)
        go_roundw
        case rel =>
          refine ⟨k + 1, hkn, rfl, (.int .i64 (k : Int), .int .i64 (10 * (k : Int))) :: M, k5, ?_, by simp; omega, B5⟩
          intro x hx
          rcases List.mem_cons.1 hx with rfl | hx
          · exact ⟨k, by omega, rfl⟩
          · obtain ⟨j, hj, hxj⟩ := hM x hx
            exact ⟨j, by omega, hxj⟩
        case measure => simp [intOf]; omega
      · rcases M.eq_nil_or_concat with rfl | ⟨M0, y, rfl⟩
        · simp at hge; omega
        rw [List.concat_eq_append] at *
        obtain ⟨yk, yv⟩ := y
        obtain ⟨j, hj, hyk⟩ := hM (yk, yv) (by simp)
        simp only at hyk
        subst hyk
        have dj : ((j : Int) == -1) = false := beq_false_of_ne (by omega)
        have HP := Lib.hid (put_over (M0 := (.int .i64 (-1), .int .i64 7) :: M0) (vv := 10 * (k : Int)) (by omega) hK (CAlive.low w hB.size) hwf hkM (by simp at hl hge ⊢; omega))
        have HF := Lib.hid (fun w1 (h : K (fun k => k < w.heap.size) c (m + 1) ((.int .i64 (k : Int), .int .i64 (10 * (k : Int))) :: (.int .i64 (-1), .int .i64 7) :: M0) w1) hs => find_kv (m1 := [(.int .i64 (k : Int), .int .i64 (10 * (k : Int)))]) (m2 := M0) (w := w1) (kk := -1) (v := .int .i64 7) h (CAlive.low w hs))
        clear hK hkM
        go_wp2_with
          (first
            | (go_at_call 8; (with_reducible refine HP.out.mono ?_); rintro e w4 ⟨rfl, k4, hf⟩; have B4 := hB.trans (hf.below hB.size (fun _ hk hn => hn hk)))
            | (go_at_call 9; (with_reducible refine (HF.out _ k4 B4.size).mono ?_); rintro e w5 ⟨rfl, k5, hf⟩; have B5 := B4.trans (hf.below B4.size (fun _ hk hn => hn hk)))
            | fail)
        go_roundw
        case rel =>
          refine ⟨k + 1, hkn, rfl, (.int .i64 (k : Int), .int .i64 (10 * (k : Int))) :: M0, k5, ?_, by simp at hl hge ⊢; omega, B5⟩
          intro x hx
          rcases List.mem_cons.1 hx with rfl | hx
          · exact ⟨k, by omega, rfl⟩
          · obtain ⟨j, hj, hxj⟩ := hM x (List.mem_append_left _ hx)
            exact ⟨j, by omega, hxj⟩
        case measure => simp [intOf]; omega
    · obtain rfl : k = n := by omega
      have HK := Lib.hid (keys_kv hK (by
        intro x hx
        rcases List.mem_cons.1 hx with rfl | hx
        · exact ⟨-1, rfl⟩
        · obtain ⟨j, -, hj⟩ := hM x hx
          exact ⟨j, hj⟩))
      have hlen : ((((.int .i64 (-1), .int .i64 7) :: M : List (Value × Value)).length : Nat) : Int) = min (1 + (m : Int)) (1 + (k : Int)) := by simp; omega
      generalize hM2 : ((.int .i64 (-1), .int .i64 7) :: M : List (Value × Value)) = M2 at *
      have h1 : 0 < M2.length := by rw [← hM2]; simp
      have hh : (M2.map Prod.fst)[0]? = some (.int .i64 (-1)) := by rw [← hM2]; rfl
      clear hM2 hM hl
      go_wp2_with
        (first
          | (go_at_call 10; (with_reducible refine HK.out.mono ?_); rintro e w4 ⟨v, rfl, hown, hb⟩; have k4 := hK.below hb; have B4 := hB.trans (hb.mono hB.size); obtain ⟨g, kc, rfl, c0⟩ := own_view hown h1; rw [hh] at c0)
          | (go_at_call 11; (with_reducible refine (len_kv k4).mono ?_); rintro e w5 ⟨rfl, rfl⟩)
          | fail)
      all_goals
        go_ret
        exact ⟨rfl, B4⟩
end Go.Proofs.Ytkbcfagggjfhhaa.CTurns
