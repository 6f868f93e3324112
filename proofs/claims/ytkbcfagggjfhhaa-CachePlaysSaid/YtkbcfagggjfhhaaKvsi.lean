/- A cache of string and int by its keys and values alone. Conditions: as each says. -/
import Derived.Test.YtkbcfagggjfhhaaKvBase
import Derived.Test.YtkbcfagggjfhhaaCacsi
namespace Go.Proofs.Ytkbcfagggjfhhaa.Csi
set_option maxRecDepth 100000
open Go.RowKit Go.Proofs.Ytkbcfagggjfhhaa

abbrev K (N : Nat → Prop) (c most : Nat) (M : List (Value × Value)) (w : World) : Prop := Kv Try.prog Tc Tn kT N c most M w
section
variable {N : Nat → Prop} {c most : Nat} {M m1 m2 : List (Value × Value)} {w : World}

theorem fr_list {mb r : Nat} {L : List It} {w w' : World} (h : Fr (fun k => k ∈ r :: L.map bl) w w') : Fr (cacW mb r L) w w' := h.mono fun _ hk => .inr hk

theorem put_kv {kk : ByteArray} {vv : Int} (h0 : 1 ≤ most) (h : K N c most M w) (hN : ∀ k, N k → k < w.heap.size) (hk : kk.size ≤ maxLen) :
    Calls Try.prog 18 #[.pointer (some ⟨c, 0, none⟩), (.string kk), (.int .i64 vv)] w fun e w' => ∃ k' g M', e = .returned (.tuple #[k', .bool g, .int .i64 0]) ∧ PutP M most (.string kk) (.int .i64 vv) (.string ⟨#[]⟩) k' g M' ∧ K N c most M' w' ∧ Fr (fun k => ¬ N k) w w' := by
  obtain ⟨mb, r, L, h1, rfl, h3, h4⟩ := h
  by_cases hm : (.string kk) ∈ L.map Prod.fst
  · obtain ⟨it, hit, hkey⟩ := List.mem_map.1 hm
    obtain ⟨l1, l2, rfl⟩ := List.append_of_mem hit
    refine (put_found h1 h3 hkey).mono ?_
    rintro e w' ⟨rfl, hC, hF⟩
    refine ⟨_, _, _, rfl, .inl ⟨l1.map kv, it.2.1, l2.map kv, ?_, ?_, rfl, rfl⟩, kv_step h1 h4 hN hC (by simp at h3 ⊢; omega) ?_ (fr_list hF)⟩
    · rw [List.map_append, List.map_cons]; simp [kv, hkey]
    · simp [kv]
    · intro x hx
      refine .inl ?_
      simp only [List.mem_cons, List.mem_append, List.map_append, List.map_cons] at hx ⊢
      rcases hx with rfl | hx | hx
      · exact .inr (.inr (.inl rfl))
      · exact .inr (.inl (List.mem_map.2 ⟨x, hx, rfl⟩))
      · exact .inr (.inr (.inr (List.mem_map.2 ⟨x, hx, rfl⟩)))
  · have hm' : (.string kk) ∉ (L.map kv).map Prod.fst := by rw [List.map_map]; exact hm
    rcases Nat.lt_or_ge L.length most with hlt | hge
    · refine (put_new hk h1 hm hlt).mono ?_
      rintro e w' ⟨rfl, hC, hF⟩
      refine ⟨_, _, _, rfl, .inr ⟨hm', .inl ⟨by simpa using hlt, ?_, rfl, rfl⟩⟩, kv_step h1 h4 hN hC (by simp; omega) ?_ hF⟩
      · simp [kv]
      · intro x hx
        rcases List.mem_cons.1 hx with rfl | hx
        · exact .inr (Nat.le_refl _)
        · exact .inl (List.mem_cons_of_mem _ (List.mem_map.2 ⟨x, hx, rfl⟩))
    · obtain hl : L.length = most := by omega
      rcases L.eq_nil_or_concat with rfl | ⟨L0, ⟨yk, yv, yb⟩, rfl⟩
      · simp at hl; omega
      · rw [List.concat_eq_append] at *
        refine (put_full hk h1 hm hl).mono ?_
        rintro e w' ⟨rfl, hC, hF⟩
        refine ⟨_, _, _, rfl, .inr ⟨hm', .inr ⟨by simpa using hl, L0.map kv, (yk, yv), ?_, ?_, rfl, rfl⟩⟩, kv_step h1 h4 hN hC (by simp at hl ⊢; omega) ?_ hF⟩
        · simp [kv]
        · simp [kv]
        · intro x hx
          rcases List.mem_cons.1 hx with rfl | hx
          · exact .inr (Nat.le_refl _)
          · exact .inl (List.mem_cons_of_mem _ (List.mem_map.2 ⟨x, List.mem_append_left _ hx, rfl⟩))
theorem put_same {kk : ByteArray} {vv : Int} {v0 : Value} (h : K N c most (m1 ++ ((.string kk), v0) :: m2) w) (hN : ∀ k, N k → k < w.heap.size) :
    Calls Try.prog 18 #[.pointer (some ⟨c, 0, none⟩), (.string kk), (.int .i64 vv)] w fun e w' => e = .returned (.tuple #[.string ⟨#[]⟩, .bool false, .int .i64 0]) ∧ K N c most (((.string kk), (.int .i64 vv)) :: (m1 ++ m2)) w' ∧ Fr (fun k => ¬ N k) w w' := by
  obtain ⟨mb, r, L, h1, h2, h3, h4⟩ := h
  obtain ⟨l1, l', rfl, rfl, h5⟩ := List.map_eq_append_iff.1 h2
  obtain ⟨it, l2, rfl, h6, rfl⟩ := List.map_eq_cons_iff.1 h5
  injection h6 with h6 h7
  refine (put_found h1 h3 h6).mono ?_
  rintro e w' ⟨rfl, hC, hF⟩
  have := kv_step h1 h4 hN hC (by simp at h3 ⊢; omega) ?_ (fr_list hF)
  · refine ⟨rfl, ?_, this.2⟩
    have h8 := this.1
    rw [List.map_cons, List.map_append] at h8
    exact h8
  · intro x hx
    refine .inl ?_
    simp only [List.mem_cons, List.mem_append, List.map_append, List.map_cons] at hx ⊢
    rcases hx with rfl | hx | hx
    · exact .inr (.inr (.inl rfl))
    · exact .inr (.inl (List.mem_map.2 ⟨x, hx, rfl⟩))
    · exact .inr (.inr (.inr (List.mem_map.2 ⟨x, hx, rfl⟩)))
theorem put_add {kk : ByteArray} {vv : Int} (h0 : 1 ≤ most) (h : K N c most M w) (hN : ∀ k, N k → k < w.heap.size) (hk : kk.size ≤ maxLen) (hn : (.string kk) ∉ M.map Prod.fst) (hl : M.length < most) :
    Calls Try.prog 18 #[.pointer (some ⟨c, 0, none⟩), (.string kk), (.int .i64 vv)] w fun e w' => e = .returned (.tuple #[.string ⟨#[]⟩, .bool false, .int .i64 0]) ∧ K N c most (((.string kk), (.int .i64 vv)) :: M) w' ∧ Fr (fun k => ¬ N k) w w' := by
  refine (put_kv h0 h hN hk).mono ?_
  rintro e w' ⟨k', g, M', rfl, hP, hK, hF⟩
  rcases hP with ⟨m1, v0, m2, rfl, -⟩ | ⟨-, ⟨-, rfl, rfl, rfl⟩ | ⟨h2, -⟩⟩
  · exact absurd (by simp) hn
  · exact ⟨rfl, hK, hF⟩
  · omega
theorem put_over {kk : ByteArray} {vv : Int} {M0 : List (Value × Value)} {y : Value × Value} (h0 : 1 ≤ most) (h : K N c most (M0 ++ [y]) w) (hN : ∀ k, N k → k < w.heap.size) (hk : kk.size ≤ maxLen) (hn : (.string kk) ∉ (M0 ++ [y]).map Prod.fst) (hl : (M0 ++ [y]).length = most) :
    Calls Try.prog 18 #[.pointer (some ⟨c, 0, none⟩), (.string kk), (.int .i64 vv)] w fun e w' => e = .returned (.tuple #[y.1, .bool true, .int .i64 0]) ∧ K N c most (((.string kk), (.int .i64 vv)) :: M0) w' ∧ Fr (fun k => ¬ N k) w w' := by
  refine (put_kv h0 h hN hk).mono ?_
  rintro e w' ⟨k', g, M', rfl, hP, hK, hF⟩
  rcases hP with ⟨m1, v0, m2, he, -⟩ | ⟨-, ⟨h2, -⟩ | ⟨-, M1, z, he, rfl, rfl, rfl⟩⟩
  · exact absurd (by rw [he]; simp) hn
  · omega
  · obtain ⟨rfl, he2⟩ := List.append_inj' he rfl
    injection he2 with he2
    subst he2
    exact ⟨rfl, hK, hF⟩
theorem find_kv {kk : ByteArray} {v : Value} (h : K N c most (m1 ++ ((.string kk), v) :: m2) w) (hN : ∀ k, N k → k < w.heap.size) :
    Calls Try.prog 14 #[.pointer (some ⟨c, 0, none⟩), (.string kk)] w fun e w' => e = .returned (.tuple #[v, .bool true]) ∧ K N c most (((.string kk), v) :: (m1 ++ m2)) w' ∧ Fr (fun k => ¬ N k) w w' := by
  obtain ⟨mb, r, L, h1, h2, h3, h4⟩ := h
  obtain ⟨l1, l', rfl, rfl, h5⟩ := List.map_eq_append_iff.1 h2
  obtain ⟨it, l2, rfl, h6, rfl⟩ := List.map_eq_cons_iff.1 h5
  injection h6 with h6 h7
  refine (find_found h1 h6).mono ?_
  rintro e w' ⟨rfl, hC, hF⟩
  rw [h7]
  have := kv_step h1 h4 hN hC (by simp at h3 ⊢; omega) ?_ (fr_list hF)
  · refine ⟨rfl, ?_, this.2⟩
    have h8 := this.1
    rw [List.map_cons, List.map_append, show kv it = ((.string kk), v) by unfold kv; rw [h6, h7]] at h8
    exact h8
  · intro x hx
    refine .inl ?_
    simp only [List.mem_cons, List.mem_append, List.map_append, List.map_cons] at hx ⊢
    rcases hx with rfl | hx | hx
    · exact .inr (.inr (.inl rfl))
    · exact .inr (.inl (List.mem_map.2 ⟨x, hx, rfl⟩))
    · exact .inr (.inr (.inr (List.mem_map.2 ⟨x, hx, rfl⟩)))
theorem find_not {kk : ByteArray} (hk : kk.size ≤ maxLen) (h : K N c most M w) (hn : (.string kk) ∉ M.map Prod.fst) :
    Calls Try.prog 14 #[.pointer (some ⟨c, 0, none⟩), (.string kk)] w fun e w' => e = .returned (.tuple #[.int .i64 0, .bool false]) ∧ w' = w := by
  obtain ⟨mb, r, L, h1, rfl, h3, h4⟩ := h
  exact find_none hk h1 (by rwa [List.map_map] at hn)
theorem len_kv (h : K N c most M w) : Calls Try.prog 20 #[.pointer (some ⟨c, 0, none⟩)] w fun e w' => e = .returned (.int .i64 (M.length : Int)) ∧ w' = w := by
  obtain ⟨mb, r, L, h1, rfl, h3, h4⟩ := h
  rw [List.length_map]
  exact len_n h1
theorem keys_kv (h : K N c most M w) (ho : ∀ x ∈ M, ∃ kk : ByteArray, x.1 = (.string kk)) : Calls Try.prog 19 #[.pointer (some ⟨c, 0, none⟩)] w fun e w' => ∃ v, e = .returned v ∧ w'.ownsRow w.heap.size 9 1 v M.length (M.map Prod.fst) ∧ Below w.heap.size w w' := by
  obtain ⟨mb, r, L, h1, rfl, h3, h4⟩ := h
  have := keys_n h1 (fun x hx => ho (kv x) (List.mem_map.2 ⟨x, hx, rfl⟩))
  rw [List.length_map, List.map_map]
  exact this
theorem new_kv (h1 : 1 ≤ most) (h2 : most ≤ 4096) (hN : ∀ k, N k → k < w.heap.size) : Calls Try.prog 12 #[.int .i64 (most : Int)] w fun e w' => ∃ c, e = .returned (.tuple #[.pointer (some ⟨c, 0, none⟩), .int .i64 0]) ∧ K N c most [] w' ∧ Below w.heap.size w w' := by
  refine (new_ok h1 h2).mono ?_
  rintro e w' ⟨c, mb, r, rfl, hC, hb, hs⟩
  exact ⟨c, rfl, ⟨mb, r, [], hC, rfl, Nat.zero_le _, fun k hk hn => by have := hs k hk; have := hN k hn; omega⟩, hb⟩
end
end Go.Proofs.Ytkbcfagggjfhhaa.Csi
