/- What stays in a cache, plainly; Ask by its contracts. Conditions: as each says. -/
import Derived.Test.YtkbcfagggjfhhaaCacAlive
import Derived.Test.YtkbcfagggjfhhaaKvus
import Derived.Test.YtkbcfagggjfhhaaCommon
namespace Go.Proofs.Ytkbcfagggjfhhaa.CInts
set_option maxRecDepth 100000
open Go.RowKit Go.Proofs.Ytkbcfagggjfhhaa Go.Proofs.Ytkbcfagggjfhhaa.Cus

/-- The last ones that fit are there. -/
def Last (l : Nat → Value) (i most : Nat) (ks : List Value) : Prop := ∀ j, j < i → i - j ≤ most → l j ∈ ks.take (i - j)

theorem Last.start (l : Nat → Value) (most : Nat) (ks : List Value) : Last l 0 most ks := fun j hj => by omega
theorem Last.step {l : Nat → Value} {i most : Nat} {M M' : List (Value × Value)} {v zk k' : Value} {g : Bool} (h : Last l i most (M.map Prod.fst)) (hm : M.length ≤ most) (hP : PutP M most (l i) v zk k' g M') : Last l (i + 1) most (M'.map Prod.fst) := by
  intro j hj hd
  by_cases hji : j = i
  · subst hji
    rw [show j + 1 - j = 1 by omega]
    rcases hP with ⟨m1, v0, m2, -, rfl, -⟩ | ⟨-, ⟨-, rfl, -⟩ | ⟨-, M0, y, -, rfl, -⟩⟩ <;> simp
  · have h1 := h j (by omega) (by omega)
    obtain ⟨t, ht⟩ : ∃ t, t = i - j := ⟨_, rfl⟩
    rw [← ht] at h1
    rw [show i + 1 - j = t + 1 by omega]
    rcases hP with ⟨m1, v0, m2, rfl, rfl, -⟩ | ⟨-, ⟨-, rfl, -⟩ | ⟨hl, M0, y, rfl, rfl, -⟩⟩
    · rw [List.map_cons, List.take_succ_cons, List.mem_cons]
      rw [List.map_append, List.map_cons] at h1
      rw [List.map_append]
      by_cases hx : l j = l i
      · exact .inl hx
      · right
        rw [List.take_append] at h1 ⊢
        rcases List.mem_append.1 h1 with h2 | h2
        · exact List.mem_append_left _ h2
        · refine List.mem_append_right _ ?_
          generalize t - (m1.map Prod.fst).length = s at *
          cases s with
          | zero => simp at h2
          | succ s =>
            rw [List.take_succ_cons, List.mem_cons] at h2
            rcases h2 with h2 | h2
            · exact absurd h2 hx
            · exact (List.take_sublist_take_left (Nat.le_succ s)).subset h2
    · rw [List.map_cons, List.take_succ_cons, List.mem_cons]
      exact .inr h1
    · rw [List.map_cons, List.take_succ_cons, List.mem_cons]
      right
      rw [List.map_append, List.take_append_of_le_length (by simp at hl ⊢; omega)] at h1
      exact h1
/-- What is found is put ahead: as a put of what is there. -/
theorem putP_found {m1 m2 : List (Value × Value)} {k v zk : Value} (most : Nat) : PutP (m1 ++ (k, v) :: m2) most k v zk zk false ((k, v) :: (m1 ++ m2)) := .inl ⟨m1, v, m2, rfl, rfl, rfl, rfl⟩
theorem PutP.keys {M M' : List (Value × Value)} {most : Nat} {k v zk k' : Value} {g : Bool} (hP : PutP M most k v zk k' g M') {x : Value × Value} (hx : x ∈ M') : x = (k, v) ∨ x ∈ M := by
  rcases hP with ⟨m1, v0, m2, rfl, rfl, -⟩ | ⟨-, ⟨-, rfl, -⟩ | ⟨-, M0, y, rfl, rfl, -⟩⟩
  · rcases List.mem_cons.1 hx with h | h
    · exact .inl h
    · right
      rcases List.mem_append.1 h with h | h
      · exact List.mem_append_left _ h
      · exact List.mem_append_right _ (List.mem_cons_of_mem _ h)
  · rcases List.mem_cons.1 hx with h | h
    · exact .inl h
    · exact .inr h
  · rcases List.mem_cons.1 hx with h | h
    · exact .inl h
    · exact .inr (List.mem_append_left _ h)

theorem neq_fn (f : Fn) (w : World) : (binOp .neq 60 (.func f #[] #[]) .nilFunc).run Try.prog w = .ok (.bool true) w := by kernel_rfl
theorem neq_nil (w : World) : (binOp .neq 60 .nilFunc .nilFunc).run Try.prog w = .ok (.bool false) w := by kernel_rfl
section
variable {N : Nat → Prop} {c most : Nat} {M m1 m2 : List (Value × Value)} {w : World} {kk : Int} {v F : Value}
theorem ask_there (h : K N c most (m1 ++ (.int .u16 kk, v) :: m2) w) (hN : ∀ k, N k → k < w.heap.size) :
    Calls Try.prog 22 #[.pointer (some ⟨c, 0, none⟩), .int .u16 kk, F] w fun e w' => e = .returned v ∧ K N c most ((.int .u16 kk, v) :: (m1 ++ m2)) w' ∧ Fr (fun k => ¬ N k) w w' := by
  have HF := Lib.hid (find_kv h hN)
  clear h
  go_enter Try.func22, Try.ntmps22
  go_wp2_with
    (first
      | (go_at_call 27; (with_reducible refine HF.out.mono ?_); rintro e w1 ⟨rfl, k1, f1⟩)
      | fail)
  go_ret
  exact ⟨rfl, k1, f1⟩
theorem one_n (w : World) : Calls Try.prog 23 #[.int .u16 kk] w fun e w' => e = .returned (.string ⟨#[120]⟩) ∧ w' = w := by
  go_enter Try.func23, Try.ntmps23
  go_wp2_with fail
  go_ret
  exact ⟨rfl, rfl⟩
theorem ask_not (h0 : 1 ≤ most) (h : K N c most M w) (hN : ∀ k, N k → k < w.heap.size) (hk : (Lit.int .u16 kk).wf = true) (hn : .int .u16 kk ∉ M.map Prod.fst) :
    Calls Try.prog 22 #[.pointer (some ⟨c, 0, none⟩), .int .u16 kk, .func (.func 23) #[] #[]] w fun e w' => ∃ k' g M', e = .returned (.string ⟨#[120]⟩) ∧ PutP M most (.int .u16 kk) (.string ⟨#[120]⟩) (.int .u16 0) k' g M' ∧ K N c most M' w' ∧ Fr (fun k => ¬ N k) w w' := by
  have HF := Lib.hid (find_not hk h hn)
  have HP := Lib.hid (put_kv (vv := ⟨#[120]⟩) h0 h hN hk)
  clear h hn
  have hq := neq_fn
  go_enter Try.func22, Try.ntmps22
  go_wp2_with
    (first
      | (go_at_call 27; (with_reducible refine HF.out.mono ?_); rintro e w1 ⟨rfl, rfl⟩)
      | (go_at_call 23; (with_reducible refine (one_n _).mono ?_); rintro e w1 ⟨rfl, rfl⟩)
      | (go_at_call 26; (with_reducible refine HP.out.mono ?_); rintro e w2 ⟨k', g, M', rfl, hP, k2, f2⟩)
      | fail)
  go_ret
  exact ⟨k', g, M', rfl, hP, k2, f2⟩
theorem ask_any (h0 : 1 ≤ most) (h : K N c most M w) (hN : ∀ k, N k → k < w.heap.size) (hk : (Lit.int .u16 kk).wf = true) :
    Calls Try.prog 22 #[.pointer (some ⟨c, 0, none⟩), .int .u16 kk, .func (.func 23) #[] #[]] w fun e w' => ∃ u v k' g M', e = .returned u ∧ PutP M most (.int .u16 kk) v (.int .u16 0) k' g M' ∧ K N c most M' w' ∧ Fr (fun k => ¬ N k) w w' := by
  by_cases hm : .int .u16 kk ∈ M.map Prod.fst
  · obtain ⟨⟨k, v⟩, hx, hkv⟩ := List.mem_map.1 hm
    obtain ⟨m1, m2, rfl⟩ := List.append_of_mem hx
    simp only at hkv
    subst hkv
    refine (ask_there h hN).mono ?_
    rintro e w' ⟨rfl, hK, hF⟩
    exact ⟨_, _, _, _, _, rfl, putP_found most, hK, hF⟩
  · refine (ask_not h0 h hN hk hm).mono ?_
    rintro e w' ⟨k', g, M', rfl, hP, hK, hF⟩
    exact ⟨_, _, _, _, _, rfl, hP, hK, hF⟩
end
theorem two_n (w : World) (kk : Int) : Calls Try.prog 28 #[.int .u16 kk] w fun e w' => e = .returned (.string ⟨#[98]⟩) ∧ w' = w := by
  go_enter Try.func28, Try.ntmps28
  go_wp2_with fail
  go_ret
  exact ⟨rfl, rfl⟩
theorem ask_nil (w : World) (kk : Int) : Calls Try.prog 22 #[.pointer none, .int .u16 kk, .func (.func 28) #[] #[]] w fun e w' => e = .returned (.string ⟨#[98]⟩) ∧ w' = w := by
  have hq := neq_fn
  go_enter Try.func22, Try.ntmps22
  go_wp2_with
    (first
      | (go_at_call 27; (with_reducible refine find_nil.mono ?_); rintro e w1 ⟨rfl, rfl⟩)
      | (go_at_call 28; (with_reducible refine (two_n _ _).mono ?_); rintro e w1 ⟨rfl, rfl⟩)
      | (go_at_call 26; (with_reducible refine put_nil.mono ?_); rintro e w2 ⟨rfl, rfl⟩)
      | fail)
  go_ret
  exact ⟨rfl, rfl⟩
theorem ask_nil_nil (w : World) (kk : Int) : Calls Try.prog 22 #[.pointer none, .int .u16 kk, .nilFunc] w fun e w' => e = .returned (.string ⟨#[]⟩) ∧ w' = w := by
  have hq := neq_nil
  go_enter Try.func22, Try.ntmps22
  go_wp2_with
    (first
      | (go_at_call 27; (with_reducible refine find_nil.mono ?_); rintro e w1 ⟨rfl, rfl⟩)
      | (go_at_call 26; (with_reducible refine put_nil.mono ?_); rintro e w2 ⟨rfl, rfl⟩)
      | fail)
  go_ret
  exact ⟨rfl, rfl⟩
end Go.Proofs.Ytkbcfagggjfhhaa.CInts
