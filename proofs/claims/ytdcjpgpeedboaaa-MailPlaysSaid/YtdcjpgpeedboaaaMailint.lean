/- What Put, Take, Len and Counts of a mailbox do: contracts, one for each way. Conditions: the box is a box; the counts are below 2^62. -/
import Derived.Test.YtdcjpgpeedboaaaChecked
import Derived.Test.YtdcjpgpeedboaaaMailBase
import Derived.KernelRfl
import Derived.Conc.LoneSelectN
import Derived.Deep.QuietTactic
import Derived.BigQuiet
import Derived.OwnWalk
import Derived.Lib.Hide
import Derived.Maps.AppendAt
namespace Go.Proofs.Ytdcjpgpeedboaaa.Mint
open Go.Conc Go.RowKit Go.Proofs.Ytdcjpgpeedboaaa

abbrev T : TypeId := 107
abbrev zero : Value := .int .i64 0

section
variable {b cu cp ku kp : Nat} {U Pl : List Value} {i o : Nat} {w : World}

theorem put_plain_room (x : Value) (h : Box T b cu cp ku kp U Pl i o w) (hr : Pl.length < kp) (hi : i < 4611686018427387904) :
    Calls Try.prog 18 #[.pointer (some ⟨b, 0, none⟩), x, .bool false] w fun e w' => e = .returned (.int .i64 0) ∧ Box T b cu cp ku kp U (Pl ++ [x]) (i + 1) o w' ∧ Fr (boxS b cu cp) w w' := by
  obtain ⟨s, r, hp⟩ := h.hp
  have c1 := h.cell1
  have hb := h.blk_chan (.inr rfl) kp ⟨Pl ++ [x]⟩ (s + 1) r
  have c2 := cell_of_at (j := 2) (v := .int .i64 (i : Int)) hb rfl
  have f2 := free_of_at (j := 2) hb
  clear hb
  refine calls_of_wpN Try.func18 rfl ?_
  simp only [Try.ntmps18, List.size_toArray, List.length_cons, List.length_nil, Nat.reduceAdd, Nat.reduceSub, Array.replicate_succ, Array.replicate_zero, List.push_toArray, List.append_toArray, List.nil_append, List.cons_append]
  refine wpN_seq_k fun K hK => ?_
  go_wp2
  refine wpN_seq_k fun K hK => ?_
  go_wp2
  refine wpN_seq_k fun K hK => ?_
  go_wp2
  refine wpN_seq_k fun K hK => ?_
  go_wp2
  refine wpN_seq_k fun K hK => ?_
  go_wp2
  refine wpN_seq ?_
  refine wpN_send_room (c := cp) (cap := kp) (buf := Pl) (s := s) (r := r) (v := x) (z := zero) rfl (by simp [go_sem, execOp, scase, Act.eval]) hp hr ?_
  go_wp2
  refine WpN.of_wp ?_
  go_wp2
  go_ret
  exact ⟨rfl, h.turn_p _ _ _ 2 _ (i + 1) o rfl, Fr.turn (.inr rfl) _ _ _ _ _ _⟩

theorem put_plain_full (x : Value) (h : Box T b cu cp ku kp U Pl i o w) (hr : kp ≤ Pl.length) :
    Calls Try.prog 18 #[.pointer (some ⟨b, 0, none⟩), x, .bool false] w fun e w' => e = .returned (.int .i64 6) ∧ w = w' := by
  obtain ⟨s, r, hp⟩ := h.hp
  have c1 := h.cell1
  refine calls_of_wpN Try.func18 rfl ?_
  simp only [Try.ntmps18, List.size_toArray, List.length_cons, List.length_nil, Nat.reduceAdd, Nat.reduceSub, Array.replicate_succ, Array.replicate_zero, List.push_toArray, List.append_toArray, List.nil_append, List.cons_append]
  refine wpN_seq_k fun K hK => ?_
  go_wp2
  refine wpN_seq_k fun K hK => ?_
  go_wp2
  refine wpN_seq_k fun K hK => ?_
  go_wp2
  refine wpN_seq_k fun K hK => ?_
  go_wp2
  refine wpN_seq_k fun K hK => ?_
  go_wp2
  refine wpN_seq ?_
  refine wpN_send_full (c := cp) (cap := kp) (buf := Pl) (s := s) (r := r) (v := x) (z := zero) rfl (by simp [go_sem, execOp, scase, Act.eval]) hp hr ?_
  go_wp2
  refine WpN.of_wp ?_
  go_wp2
  go_ret
  exact ⟨rfl, rfl⟩

theorem put_urgent_room (x : Value) (h : Box T b cu cp ku kp U Pl i o w) (hr : U.length < ku) (hi : i < 4611686018427387904) :
    Calls Try.prog 18 #[.pointer (some ⟨b, 0, none⟩), x, .bool true] w fun e w' => e = .returned (.int .i64 0) ∧ Box T b cu cp ku kp (U ++ [x]) Pl (i + 1) o w' ∧ Fr (boxS b cu cp) w w' := by
  obtain ⟨s, r, hp⟩ := h.hu
  have c1 := h.cell1
  have c0 := h.cell0
  have hb := h.blk_chan (.inl rfl) ku ⟨U ++ [x]⟩ (s + 1) r
  have c2 := cell_of_at (j := 2) (v := .int .i64 (i : Int)) hb rfl
  have f2 := free_of_at (j := 2) hb
  clear hb
  refine calls_of_wpN Try.func18 rfl ?_
  simp only [Try.ntmps18, List.size_toArray, List.length_cons, List.length_nil, Nat.reduceAdd, Nat.reduceSub, Array.replicate_succ, Array.replicate_zero, List.push_toArray, List.append_toArray, List.nil_append, List.cons_append]
  refine wpN_seq_k fun K hK => ?_
  go_wp2
  refine wpN_seq_k fun K hK => ?_
  go_wp2
  refine wpN_seq_k fun K hK => ?_
  go_wp2
  refine wpN_seq_k fun K hK => ?_
  go_wp2
  refine wpN_seq_k fun K hK => ?_
  go_wp2
  refine wpN_seq ?_
  refine wpN_send_room (c := cu) (cap := ku) (buf := U) (s := s) (r := r) (v := x) (z := zero) rfl (by simp [go_sem, execOp, scase, Act.eval]) hp hr ?_
  go_wp2
  refine WpN.of_wp ?_
  go_wp2
  go_ret
  exact ⟨rfl, h.turn_u _ _ _ 2 _ (i + 1) o rfl, Fr.turn (.inl rfl) _ _ _ _ _ _⟩

theorem put_urgent_full (x : Value) (h : Box T b cu cp ku kp U Pl i o w) (hr : ku ≤ U.length) :
    Calls Try.prog 18 #[.pointer (some ⟨b, 0, none⟩), x, .bool true] w fun e w' => e = .returned (.int .i64 6) ∧ w = w' := by
  obtain ⟨s, r, hp⟩ := h.hu
  have c1 := h.cell1
  have c0 := h.cell0
  refine calls_of_wpN Try.func18 rfl ?_
  simp only [Try.ntmps18, List.size_toArray, List.length_cons, List.length_nil, Nat.reduceAdd, Nat.reduceSub, Array.replicate_succ, Array.replicate_zero, List.push_toArray, List.append_toArray, List.nil_append, List.cons_append]
  refine wpN_seq_k fun K hK => ?_
  go_wp2
  refine wpN_seq_k fun K hK => ?_
  go_wp2
  refine wpN_seq_k fun K hK => ?_
  go_wp2
  refine wpN_seq_k fun K hK => ?_
  go_wp2
  refine wpN_seq_k fun K hK => ?_
  go_wp2
  refine wpN_seq ?_
  refine wpN_send_full (c := cu) (cap := ku) (buf := U) (s := s) (r := r) (v := x) (z := zero) rfl (by simp [go_sem, execOp, scase, Act.eval]) hp hr ?_
  go_wp2
  refine WpN.of_wp ?_
  go_wp2
  go_ret
  exact ⟨rfl, rfl⟩

theorem put_nil (x : Value) (u : Bool) : Calls Try.prog 18 #[.pointer none, x, .bool u] w fun e w' => e = .returned (.int .i64 3) ∧ w = w' := by
  go_enter Try.func18, Try.ntmps18
  go_wp2
  go_ret
  exact ⟨rfl, rfl⟩

theorem take_nil : Calls Try.prog 19 #[.pointer none] w fun e w' => e = .returned (.tuple #[zero, .bool false, .int .i64 3]) ∧ w = w' := by
  go_enter Try.func19, Try.ntmps19
  go_wp2
  go_ret3
  exact ⟨rfl, rfl⟩

theorem take_urgent (x : Value) (h : Box T b cu cp ku kp (x :: U) Pl i o w) (ho : o < 4611686018427387904) :
    Calls Try.prog 19 #[.pointer (some ⟨b, 0, none⟩)] w fun e w' => e = .returned (.tuple #[x, .bool true, .int .i64 0]) ∧ Box T b cu cp ku kp U Pl i (o + 1) w' ∧ Fr (boxS b cu cp) w w' := by
  have c0 := h.cell0
  have c1 := h.cell1
  obtain ⟨s, r, hu⟩ := h.hu
  obtain ⟨s', r', hp⟩ := h.hp
  have hb := h.blk_chan (.inl rfl) ku ⟨U⟩ s (r + 1)
  have c3 := cell_of_at (j := 3) (v := .int .i64 (o : Int)) hb rfl
  have f3 := free_of_at (j := 3) hb
  clear hb
  refine calls_of_wpN Try.func19 rfl ?_
  simp only [Try.ntmps19, List.size_toArray, List.length_cons, List.length_nil, Nat.reduceAdd, Nat.reduceSub, Array.replicate_succ, Array.replicate_zero, List.push_toArray, List.append_toArray, List.nil_append, List.cons_append]
  refine wpN_seq_k fun K hK => ?_
  go_wp2
  refine wpN_seq_k fun K hK => ?_
  go_wp2
  refine wpN_seq_k fun K hK => ?_
  go_wp2
  refine wpN_seq ?_
  refine wpN_seq_k fun K hK => ?_
  go_wp2
  refine wpN_seq ?_
  refine wpN_recv_some (c := cu) (cap := ku) (buf := U) (x := x) (s := s) (r := r) (z := zero) rfl (by simp [go_sem, execOp, rcase, Act.eval]) hu ?_
  go_wp2
  refine WpN.of_wp ?_
  go_wp2
  go_ret3
  exact ⟨rfl, h.turn_u _ _ _ 3 _ i (o + 1) rfl, Fr.turn (.inl rfl) _ _ _ _ _ _⟩

theorem take_plain (x : Value) (h : Box T b cu cp ku kp [] (x :: Pl) i o w) (ho : o < 4611686018427387904) :
    Calls Try.prog 19 #[.pointer (some ⟨b, 0, none⟩)] w fun e w' => e = .returned (.tuple #[x, .bool false, .int .i64 0]) ∧ Box T b cu cp ku kp [] Pl i (o + 1) w' ∧ Fr (boxS b cu cp) w w' := by
  have c0 := h.cell0
  have c1 := h.cell1
  obtain ⟨s, r, hu⟩ := h.hu
  obtain ⟨s', r', hp⟩ := h.hp
  have hb := h.blk_chan (.inr rfl) kp ⟨Pl⟩ s' (r' + 1)
  have c3 := cell_of_at (j := 3) (v := .int .i64 (o : Int)) hb rfl
  have f3 := free_of_at (j := 3) hb
  clear hb
  refine calls_of_wpN Try.func19 rfl ?_
  simp only [Try.ntmps19, List.size_toArray, List.length_cons, List.length_nil, Nat.reduceAdd, Nat.reduceSub, Array.replicate_succ, Array.replicate_zero, List.push_toArray, List.append_toArray, List.nil_append, List.cons_append]
  refine wpN_seq_k fun K hK => ?_
  go_wp2
  refine wpN_seq_k fun K hK => ?_
  go_wp2
  refine wpN_seq_k fun K hK => ?_
  go_wp2
  refine wpN_seq ?_
  refine wpN_seq_k fun K hK => ?_
  go_wp2
  refine wpN_seq ?_
  refine wpN_recv_none (c := cu) (cap := ku) (s := s) (r := r) (z := zero) rfl (by simp [go_sem, execOp, rcase, Act.eval]) hu ?_
  go_wp2
  refine WpN.of_wp ?_
  go_wp2
  refine wpN_seq_k fun K hK => ?_
  go_wp2
  refine wpN_seq ?_
  refine wpN_recv_some (c := cp) (cap := kp) (buf := Pl) (x := x) (s := s') (r := r') (z := zero) rfl (by simp [go_sem, execOp, rcase, Act.eval]) hp ?_
  go_wp2
  refine WpN.of_wp ?_
  go_wp2
  go_ret3
  exact ⟨rfl, h.turn_p _ _ _ 3 _ i (o + 1) rfl, Fr.turn (.inr rfl) _ _ _ _ _ _⟩

theorem take_none (h : Box T b cu cp ku kp [] [] i o w) :
    Calls Try.prog 19 #[.pointer (some ⟨b, 0, none⟩)] w fun e w' => e = .returned (.tuple #[zero, .bool false, .int .i64 5]) ∧ w = w' := by
  have c0 := h.cell0
  have c1 := h.cell1
  obtain ⟨s, r, hu⟩ := h.hu
  obtain ⟨s', r', hp⟩ := h.hp
  refine calls_of_wpN Try.func19 rfl ?_
  simp only [Try.ntmps19, List.size_toArray, List.length_cons, List.length_nil, Nat.reduceAdd, Nat.reduceSub, Array.replicate_succ, Array.replicate_zero, List.push_toArray, List.append_toArray, List.nil_append, List.cons_append]
  refine wpN_seq_k fun K hK => ?_
  go_wp2
  refine wpN_seq_k fun K hK => ?_
  go_wp2
  refine wpN_seq_k fun K hK => ?_
  go_wp2
  refine wpN_seq ?_
  refine wpN_seq_k fun K hK => ?_
  go_wp2
  refine wpN_seq ?_
  refine wpN_recv_none (c := cu) (cap := ku) (s := s) (r := r) (z := zero) rfl (by simp [go_sem, execOp, rcase, Act.eval]) hu ?_
  go_wp2
  refine WpN.of_wp ?_
  go_wp2
  refine wpN_seq_k fun K hK => ?_
  go_wp2
  refine wpN_seq ?_
  refine wpN_recv_none (c := cp) (cap := kp) (s := s') (r := r') (z := zero) rfl (by simp [go_sem, execOp, rcase, Act.eval]) hp ?_
  go_wp2
  refine WpN.of_wp ?_
  go_wp2
  go_ret3
  exact ⟨rfl, rfl⟩

theorem len_any (h : Box T b cu cp ku kp U Pl i o w) :
    Calls Try.prog 20 #[.pointer (some ⟨b, 0, none⟩)] w fun e w' => e = .returned (.tuple #[.int .i64 (U.length : Int), .int .i64 (Pl.length : Int)]) ∧ ∃ n, w' = w.drewN n := by
  have c0 := h.cell0
  have c1 := h.cell1
  obtain ⟨s, r, hu⟩ := h.hu
  obtain ⟨s', r', hp⟩ := h.hp
  have hl1 := fun (n : Nat) (ty : TypeId) => run_len_chan (P := Try.prog) (w := w.drewN n) 105 ty Try.underlying105 hu
  have hl2 := fun (n : Nat) (ty : TypeId) => run_len_chan (P := Try.prog) (w := w.drewN n) 105 ty Try.underlying105 hp
  go_enter Try.func20, Try.ntmps20
  go_wp2
  go_quiet (fail)
  go_wp2
  go_ret2
  exact ⟨by simp, _, rfl⟩

theorem counts_any (h : Box T b cu cp ku kp U Pl i o w) :
    Calls Try.prog 21 #[.pointer (some ⟨b, 0, none⟩)] w fun e w' => e = .returned (.tuple #[.int .i64 (i : Int), .int .i64 (o : Int)]) ∧ ∃ n, w' = w.drewN n := by
  have c2 := h.cell2
  have c3 := h.cell3
  go_enter Try.func21, Try.ntmps21
  go_wp2
  go_quiet (fail)
  go_wp2
  go_ret2
  exact ⟨rfl, _, rfl⟩

theorem len_nil : Calls Try.prog 20 #[.pointer none] w fun e w' => e = .returned (.tuple #[.int .i64 0, .int .i64 0]) ∧ w = w' := by
  go_enter Try.func20, Try.ntmps20
  go_wp2
  go_ret2
  exact ⟨rfl, rfl⟩
theorem counts_nil : Calls Try.prog 21 #[.pointer none] w fun e w' => e = .returned (.tuple #[.int .i64 0, .int .i64 0]) ∧ w = w' := by
  go_enter Try.func21, Try.ntmps21
  go_wp2
  go_ret2
  exact ⟨rfl, rfl⟩

end

/-- What New leaves. -/
def NewOk (ku kp : Nat) (w : World) (e : Ending) (w' : World) : Prop :=
  ∃ b cu cp, e = .returned (.tuple #[.pointer (some ⟨b, 0, none⟩), .int .i64 0]) ∧ Box T b cu cp ku kp [] [] 0 0 w' ∧ Below w.heap.size w w' ∧ ∀ k, boxS b cu cp k → w.heap.size ≤ k

theorem infoE : ∃ i, Try.prog.info? 3 = some i ∧ i.bytes ≤ 16 := by
  have h : ((Try.prog.info? 3).map (fun i => decide (i.bytes ≤ 16))) = some true := by kernel_rfl
  obtain ⟨i, hi, hb⟩ := Option.map_eq_some_iff.1 h
  exact ⟨i, hi, by simpa using hb⟩
theorem mkChan (w : World) (n : Nat) (hn : n ≤ 4096) : (Instr.makeChan 105 (.int .i64 (n : Int))).run Try.prog w = .ok (.chan (some w.heap.size)) (w.alloc (.chan n #[] false 0 0 false)) := by
  obtain ⟨i, hi, hb⟩ := infoE
  have hm : i.bytes * n ≤ 16 * 4096 := Nat.mul_le_mul hb hn
  exact run_makeChan Try.underlying105 hi .i64 n (by omega) (by rw [← Int.natCast_mul]; omega)

theorem new_bad (u p : Int) (w : World) (h : ¬ ((0 ≤ u ∧ u ≤ 4096) ∧ (0 ≤ p ∧ p ≤ 4096))) :
    Calls Try.prog 16 #[.int .i64 u, .int .i64 p] w fun e w' => e = .returned (.tuple #[.pointer none, .int .i64 1]) ∧ w = w' := by
  by_cases h1 : 0 ≤ u
  · by_cases h2 : u ≤ 4096
    · by_cases h3 : 0 ≤ p
      · have h4 : decide (p ≤ 4096) = false := decide_eq_false (by omega)
        go_enter Try.func16, Try.ntmps16
        go_wp2
        go_ret2
        exact ⟨rfl, rfl⟩
      · have h3' : decide (0 ≤ p) = false := decide_eq_false h3
        go_enter Try.func16, Try.ntmps16
        go_wp2
        go_ret2
        exact ⟨rfl, rfl⟩
    · have h2' : decide (u ≤ 4096) = false := decide_eq_false h2
      go_enter Try.func16, Try.ntmps16
      go_wp2
      go_ret2
      exact ⟨rfl, rfl⟩
  · have h1' : decide (0 ≤ u) = false := decide_eq_false h1
    go_enter Try.func16, Try.ntmps16
    go_wp2
    go_ret2
    exact ⟨rfl, rfl⟩

theorem new_ok (ku kp : Nat) (w : World) (hu : ku ≤ 4096) (hp : kp ≤ 4096) :
    Calls Try.prog 16 #[.int .i64 (ku : Int), .int .i64 (kp : Int)] w (NewOk ku kp w) := by
  have m1 := fun wx => mkChan wx ku hu
  have m2 := fun wx => mkChan wx kp hp
  have g1 : (0 : Int) ≤ (ku : Int) := by omega
  have g2 : (ku : Int) ≤ 4096 := by omega
  have g3 : (0 : Int) ≤ (kp : Int) := by omega
  have g4 : (kp : Int) ≤ 4096 := by omega
  go_enter Try.func16, Try.ntmps16
  go_wp2
  go_region
  all_goals go_wp2
  all_goals go_ret2
  · exact ⟨_, _, _, rfl, box_new T w ku kp, three_below _ _ _ _, by rintro k (rfl | rfl | rfl) <;> omega⟩
  · exact ⟨_, _, _, rfl, box_new' T w ku kp, three_below _ _ _ _, by rintro k (rfl | rfl | rfl) <;> omega⟩

theorem infoRow : (Try.prog.info? 3).map (fun i => (i.zero, i.size, i.bytes)) = some (some zero, 1, 8) := by kernel_rfl

/-- An element as a value. -/
abbrev enc (x : Int) : Value := .int .i64 x

/-- What Drain leaves. -/
def DrainOk (b cu cp ku kp : Nat) (l : List Int) (i o : Nat) (w : World) (e : Ending) (w' : World) : Prop :=
  ∃ v, e = .returned v ∧ w'.ownsRow w.heap.size 3 1 v l.length (l.map enc) ∧ Box T b cu cp ku kp [] [] i (o + l.length) w' ∧ Fr (boxS b cu cp) w w'

theorem drain_nil (w : World) : Calls Try.prog 22 #[.pointer none] w fun e w' => e = .returned (.slice none 0 0) ∧ w = w' := by
  go_enter Try.func22, Try.ntmps22
  go_wp2
  refine wp_loop_rounds 1 ?_
  rw [rounds_succ]
  go_wp2_with (go_at_call 19; refine (take_nil).mono ?_; rintro e w' ⟨rfl, rfl⟩)
  go_ret
  exact ⟨rfl, rfl⟩

/-- The relation of Drain's loop. -/
def DrainRel (b cu cp ku kp i o N : Nat) (l : List Int) (w : World) (v : Value) (wr : World) : Prop :=
  ∃ U' P' xs : List Int, xs ++ (U' ++ P') = l ∧ l.length = N ∧ Box T b cu cp ku kp (U'.map enc) (P'.map enc) i (o + xs.length) wr ∧ wr.ownsRow w.heap.size 3 1 v xs.length (xs.map enc) ∧ Fr (boxS b cu cp) w wr

theorem drain_step {b cu cp ku kp i o N : Nat} {l xs : List Int} {x : Int} {U' P' : List Int} {w w1 w2 : World} {v : Value}
    (hN : l.length = N) (hbox : Box T b cu cp ku kp (U'.map enc) (P'.map enc) i (o + xs.length + 1) w1) (hfr : Fr (boxS b cu cp) w w1) (hU : xs ++ [x] ++ (U' ++ P') = l)
    (hlt : ∀ k, boxS b cu cp k → k < w.heap.size) {v0 : Value} (hown0 : w1.ownsRow w.heap.size 3 1 v0 xs.length (xs.map enc))
    (hown : w2.ownsRow w.heap.size 3 1 v (xs.length + 1) (xs.map enc ++ [enc x])) (hg : (w1.alloc (.cells #[enc x] 3)).grownBy w2 v0.ownBlock) :
    DrainRel b cu cp ku kp i o N l w v w2 ∧ lenOf v = xs.length + 1 := by
  have hfr2 : Fr (boxS b cu cp) w w2 := (hfr.alloc _).grown hg (fun k hk => (hown0.lt k hk).1)
  refine ⟨⟨U', P', xs ++ [x], hU, hN, ?_, ?_, hfr2⟩, ownsRow_lenOf hown⟩
  · have h1 : Fr (fun k => w.heap.size ≤ k) w1 w2 := ((Fr.refl _ w1).alloc _).trans ⟨hg.os, hg.tape, hg.output, hg.size, fun k hk hn => hg.block k hk (fun e => hn (hown0.lt k e.symm).1)⟩
    have := hbox.keep h1 (fun k hk hn => by have := hlt k hk; omega)
    simpa [Nat.add_assoc] using this
  · simpa using hown

set_option maxHeartbeats 1000000 in
theorem drain_any {b cu cp ku kp : Nat} {U Pl : List Int} {i o : Nat} {w : World} (h : Box T b cu cp ku kp (U.map enc) (Pl.map enc) i o w) (ho : o < 2305843009213693952) (hl : (U ++ Pl).length ≤ 10000) (hlt : ∀ k, boxS b cu cp k → k < w.heap.size) :
    Calls Try.prog 22 #[.pointer (some ⟨b, 0, none⟩)] w (DrainOk b cu cp ku kp (U ++ Pl) i o w) := by
  obtain ⟨i0, hi, hz0, hz1, hz2⟩ := info_parts infoRow
  obtain ⟨N, hN⟩ : ∃ N, N = (U ++ Pl).length := ⟨_, rfl⟩
  obtain ⟨l, hll⟩ : ∃ l, l = U ++ Pl := ⟨_, rfl⟩
  rw [← hll] at hN hl ⊢
  have Hll := Lib.hid hll; clear hll
  have HN := Lib.hid hN.symm; clear hN
  have Hlt := Lib.hid hlt; clear hlt
  go_enter Try.func22, Try.ntmps22
  go_wp2
  go_loopw [3] (fun v wr => DrainRel b cu cp ku kp i o N l w v wr) (fun v _ => N - lenOf v)
  case atStart => exact ⟨U, Pl, [], Hll.out.symm, HN.out, h, World.ownsRow_nil _ _ _ _, Fr.refl _ _⟩
  case round =>
    obtain ⟨U', P', xs, hx, hN, hbox, hown, hfr⟩ := hrel
    have hlx : xs.length + (U'.length + P'.length) = N := by rw [← hN, ← hx]; simp
    have hu3 : lenOf u3 = xs.length := ownsRow_lenOf hown
    have Hu3 := Lib.hid hu3; clear hu3
    have hsz0 := hfr.size
    rcases U' with _ | ⟨x, U'⟩
    · rcases P' with _ | ⟨x, P'⟩
      · have Hx := Lib.hid hx; clear hx hlx hN
        go_wp2_with (go_at_call 19; refine (take_none hbox).mono ?_; rintro e w' ⟨rfl, rfl⟩)
        go_ret
        have hx := Hx.out
        rw [List.append_nil, List.append_nil] at hx
        subst hx
        exact ⟨_, rfl, hown, hbox, hfr⟩
      · have hxl : xs.length + 1 ≤ 10000 := by rw [← hN] at hlx; simp at hlx; omega
        have hlN : xs.length < N := by simp at hlx; omega
        have hoo : o + xs.length < 4611686018427387904 := by omega
        have Hx := Lib.hid hx; have Hl := Lib.hid hlx; have HN' := Lib.hid hN; clear hx hlx hN
        go_wp2_with fail
        refine (take_plain (enc x) hbox hoo).mono ?_
        rintro e w1 ⟨rfl, hbox1, hfr1⟩
        have hown1 := ownsRow_fr hown hfr1 (fun k hk hs => by have := Hlt.out k hs; omega)
        have hsz := hfr1.size
        have hlen := ownsRow_lenOf hown1
        have Hlen := Lib.hid hlen; clear hlen
        go_wp2_with (at_builtin; refine wpList_append_own _ rfl _ _ 31 rfl w.heap.size 3 i0 zero 1 8 Try.underlying31 hi hz0 hz1 hz2 rfl (by decide) _ _ _ rfl (hown1.alloc _) ⟨w1.heap.size, 0, none⟩ 1 1 [enc x] rfl rfl (cell_one_new _ _ _) (by simp [Value.oneCell']) (by unfold maxLen; omega) (by omega) (by simp; omega) ?_; intro v2 w2 hown2 hg2 _)
        obtain ⟨R, hL⟩ := drain_step (l := l) (N := N) (U' := []) (P' := P') HN'.out hbox1 (hfr.trans hfr1) (by rw [← Hx.out]; simp) Hlt.out hown1 hown2 hg2
        have HL := Lib.hid hL; clear hL
        go_roundw
        case rel => exact R
        case measure => simp [HL.out, Hu3.out]; omega
    · have hxl : xs.length + 1 ≤ 10000 := by rw [← hN] at hlx; simp at hlx; omega
      have hlN : xs.length < N := by simp at hlx; omega
      have hoo : o + xs.length < 4611686018427387904 := by omega
      have Hx := Lib.hid hx; have Hl := Lib.hid hlx; have HN' := Lib.hid hN; clear hx hlx hN
      go_wp2_with fail
      refine (take_urgent (enc x) hbox hoo).mono ?_
      rintro e w1 ⟨rfl, hbox1, hfr1⟩
      have hown1 := ownsRow_fr hown hfr1 (fun k hk hs => by have := Hlt.out k hs; omega)
      have hsz := hfr1.size
      have hlen := ownsRow_lenOf hown1
      have Hlen := Lib.hid hlen; clear hlen
      go_wp2_with (at_builtin; refine wpList_append_own _ rfl _ _ 31 rfl w.heap.size 3 i0 zero 1 8 Try.underlying31 hi hz0 hz1 hz2 rfl (by decide) _ _ _ rfl (hown1.alloc _) ⟨w1.heap.size, 0, none⟩ 1 1 [enc x] rfl rfl (cell_one_new _ _ _) (by simp [Value.oneCell']) (by unfold maxLen; omega) (by omega) (by simp; omega) ?_; intro v2 w2 hown2 hg2 _)
      obtain ⟨R, hL⟩ := drain_step (l := l) (N := N) (U' := U') (P' := P') HN'.out hbox1 (hfr.trans hfr1) (by rw [← Hx.out]; simp) Hlt.out hown1 hown2 hg2
      have HL := Lib.hid hL; clear hL
      go_roundw
      case rel => exact R
      case measure => simp [HL.out, Hu3.out]; omega

end Go.Proofs.Ytdcjpgpeedboaaa.Mint
