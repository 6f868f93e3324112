/- Ask of a cache of texts and numbers, with CachePlays' function; the lists of the document. Conditions: as each says. -/
import Derived.Test.YtkbcfagggjfhhaaItems
namespace Go.Proofs.Ytkbcfagggjfhhaa.CPlays
set_option maxRecDepth 100000
open Go.RowKit Go.Proofs.Ytkbcfagggjfhhaa Go.Proofs.Ytkbcfagggjfhhaa.Csi

theorem neq_fn (f : Fn) (c : Array Value) (w : World) : (binOp .neq 48 (.func f #[] c) .nilFunc).run Try.prog w = .ok (.bool true) w := by kernel_rfl
section
variable {N : Nat → Prop} {c most : Nat} {M m1 m2 : List (Value × Value)} {w : World} {kk : ByteArray} {v F : Value}
theorem ask_there (h : K N c most (m1 ++ (.string kk, v) :: m2) w) (hN : ∀ k, N k → k < w.heap.size) :
    Calls Try.prog 16 #[.pointer (some ⟨c, 0, none⟩), .string kk, F] w fun e w' => e = .returned v ∧ K N c most ((.string kk, v) :: (m1 ++ m2)) w' ∧ Fr (fun k => ¬ N k) w w' := by
  have HF := Lib.hid (find_kv h hN)
  clear h
  go_enter Try.func16, Try.ntmps16
  go_wp2_with
    (first
      | (go_at_call 14; (with_reducible refine HF.out.mono ?_); rintro e w1 ⟨rfl, k1, f1⟩)
      | fail)
  go_ret
  exact ⟨rfl, k1, f1⟩
theorem clos_n {w : World} {ba bq : Nat} {vv : Int} {kk : ByteArray} (ha : w.cell? ⟨ba, 2, none⟩ = some (.int .i64 vv)) (hq : w.heap[bq]? = some (.cells #[.int .i64 0] 3 (0, 0))) (hab : ba ≠ bq) :
    Calls Try.prog 17 #[.string kk, .pointer (some ⟨bq, 0, none⟩), .pointer (some ⟨ba, 0, none⟩)] w fun e w' => e = .returned (.int .i64 vv) ∧ w' = w.setCell ⟨bq, 0, none⟩ (.int .i64 1) := by
  have q0 := cell_at (j := 0) hq rfl
  have f0 := free_at (j := 0) hq
  have a1 : (w.setCell ⟨bq, 0, none⟩ (.int .i64 1)).cell? ⟨ba, 2, none⟩ = some (.int .i64 vv) := (World.cell?_of_block (Below.heap_setCell w ⟨bq, 0, none⟩ (.int .i64 1) ba hab)).trans ha
  go_enter Try.func17, Try.ntmps17
  go_wp2_with fail
  go_ret
  exact ⟨rfl, rfl⟩
theorem ask_not {ba bq : Nat} {vv : Int} (h0 : 1 ≤ most) (h : K N c most M w) (hN : ∀ k, N k → k < w.heap.size) (hk : kk.size ≤ maxLen) (hn : .string kk ∉ M.map Prod.fst) (ha : w.cell? ⟨ba, 2, none⟩ = some (.int .i64 vv)) (hq : w.heap[bq]? = some (.cells #[.int .i64 0] 3 (0, 0))) (hNq : N bq) (hab : ba ≠ bq) :
    Calls Try.prog 16 #[.pointer (some ⟨c, 0, none⟩), .string kk, .func (.func 17) #[] #[.pointer (some ⟨bq, 0, none⟩), .pointer (some ⟨ba, 0, none⟩)]] w fun e w' => e = .returned (.int .i64 vv) ∧
      ∃ k' g M', PutP M most (.string kk) (.int .i64 vv) (.string ⟨#[]⟩) k' g M' ∧ K N c most M' w' ∧ Fr (fun k => ¬ N k ∨ k = bq) w w' ∧ w'.cell? ⟨bq, 0, none⟩ = some (.int .i64 1) := by
  have HF := Lib.hid (find_not hk h hn)
  have hq1 := neq_fn
  have F1 : Fr (fun k => k = bq) w (w.setCell ⟨bq, 0, none⟩ (.int .i64 1)) := Fr.one _ _ _ _
  have k1 : K N c most M (w.setCell ⟨bq, 0, none⟩ (.int .i64 1)) := h.keep F1 (fun k _ e => e ▸ hNq)
  have HP := Lib.hid (put_kv (kk := kk) (vv := vv) h0 k1 (fun k hk => by have := hN k hk; simpa [World.setCell] using this) hk)
  have HC := Lib.hid (clos_n (kk := kk) ha hq hab)
  have q1 : (w.setCell ⟨bq, 0, none⟩ (.int .i64 1)).cell? ⟨bq, 0, none⟩ = some (.int .i64 1) := cell_at (heap_setC hq _) rfl
  clear h hn hq ha
  go_enter Try.func16, Try.ntmps16
  go_wp2_with
    (first
      | (go_at_call 14; (with_reducible refine HF.out.mono ?_); rintro e w1 ⟨rfl, rfl⟩)
      | (go_at_call 17; (with_reducible refine HC.out.mono ?_); rintro e w2 ⟨rfl, rfl⟩)
      | (go_at_call 18; (with_reducible refine HP.out.mono ?_); rintro e w3 ⟨k', g, M', rfl, hP, k3, f3⟩)
      | fail)
  go_ret
  refine ⟨rfl, k', g, M', hP, k3, (F1.mono fun k e => .inr e).trans (f3.mono fun k e => .inl e), f3.at_cell q1 (fun h => h hNq)⟩
end

/-! ### the lists -/
def enc (x : Itm) : Value × Value := (.string x.1, .int .i64 x.2)
theorem enc_keys (D : List Itm) : (D.map enc).map Prod.fst = D.map (fun x => Value.string x.1) := by rw [List.map_map]; rfl
theorem enc_mem {D : List Itm} {k : ByteArray} : Value.string k ∈ (D.map enc).map Prod.fst ↔ k ∈ D.map Prod.fst := by
  rw [enc_keys, List.mem_map, List.mem_map]
  constructor
  · rintro ⟨x, hx, he⟩
    injection he with he
    exact ⟨x, hx, he⟩
  · rintro ⟨x, hx, he⟩
    exact ⟨x, hx, by rw [he]⟩
theorem enc_nodup {D : List Itm} (h : ((D.map enc).map Prod.fst).Nodup) : (D.map Prod.fst).Nodup := by
  rw [enc_keys] at h
  have : D.map (fun x => Value.string x.1) = (D.map Prod.fst).map Value.string := by rw [List.map_map]; rfl
  rw [this] at h
  exact List.Pairwise.of_map Value.string (fun a b hab e => hab (by rw [e])) h
theorem strike_none {k : ByteArray} {l : List Itm} (h : k ∉ l.map Prod.fst) : l.filter (fun y => decide (y.1 ≠ k)) = l :=
  List.filter_eq_self.2 (fun x hx => decide_eq_true (fun e => h (List.mem_map.2 ⟨x, hx, e⟩)))
theorem front_split {k : ByteArray} {v v0 : Int} {d1 d2 : List Itm} (h : ((d1 ++ (k, v0) :: d2).map Prod.fst).Nodup) : front (k, v) (d1 ++ (k, v0) :: d2) = (k, v) :: (d1 ++ d2) ∧ k ∉ d1.map Prod.fst := by
  rw [List.map_append, List.map_cons, List.nodup_append, List.nodup_cons] at h
  have h1 : k ∉ d1.map Prod.fst := fun hm => h.2.2 k hm k (by simp) rfl
  have h2 : k ∉ d2.map Prod.fst := h.2.1.1
  refine ⟨?_, h1⟩
  show (k, v) :: List.filter (fun y => decide (y.1 ≠ k)) (d1 ++ (k, v0) :: d2) = _
  rw [List.filter_append, List.filter_cons, strike_none h1, strike_none h2]
  simp
theorem front_new {k : ByteArray} {v : Int} {D : List Itm} (h : k ∉ D.map Prod.fst) : front (k, v) D = (k, v) :: D := by
  show (k, v) :: List.filter (fun y => decide (y.1 ≠ k)) D = _
  rw [strike_none h]
/-- What a put of what is not there does, with the document's words. -/
theorem putP_new {D : List Itm} {k : ByteArray} {v : Int} {most : Nat} {zk k' : Value} {g : Bool} {M' : List (Value × Value)} (hP : PutP (D.map enc) most (.string k) (.int .i64 v) zk k' g M') (hn : k ∉ D.map Prod.fst) : M' = (((k, v) :: D).take most).map enc := by
  rcases hP with ⟨m1, v0, m2, he, -⟩ | ⟨-, ⟨hl, rfl, -⟩ | ⟨hl, M0, y, he, rfl, -⟩⟩
  · exact absurd (enc_mem.1 (by rw [he]; simp)) hn
  · rw [List.take_of_length_le (by simp at hl ⊢; omega)]; rfl
  · have hd : M0 = (D.take (most - 1)).map enc := by
      have hM : M0.length = most - 1 := by have := congrArg List.length he; simp at this hl; omega
      rw [List.map_take, he, ← hM, List.take_left]
    have hm : most = (most - 1) + 1 := by have := congrArg List.length he; simp at this hl; omega
    rw [hd, hm, List.take_succ_cons, ← hm]; rfl
end Go.Proofs.Ytkbcfagggjfhhaa.CPlays
