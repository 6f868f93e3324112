/- A cache by its keys and values alone. Conditions: none. -/
import Derived.Test.YtkbcfagggjfhhaaCacBase
namespace Go.Proofs.Ytkbcfagggjfhhaa
set_option maxRecDepth 100000
open Go.RowKit

/-- What a put does to a list of keys and values, the youngest ahead: k', g: what is told. -/
def PutP (M : List (Value × Value)) (most : Nat) (k v zk k' : Value) (g : Bool) (M' : List (Value × Value)) : Prop :=
  (∃ m1 v0 m2, M = m1 ++ (k, v0) :: m2 ∧ M' = (k, v) :: (m1 ++ m2) ∧ g = false ∧ k' = zk) ∨
  (k ∉ M.map Prod.fst ∧ ((M.length < most ∧ M' = (k, v) :: M ∧ g = false ∧ k' = zk) ∨ (M.length = most ∧ ∃ M0 y, M = M0 ++ [y] ∧ M' = (k, v) :: M0 ∧ g = true ∧ k' = y.1)))

/-- A cache with the keys and values M, in none of the blocks N. -/
def Kv (P : Program) (Tc Tn kT : TypeId) (N : Nat → Prop) (c most : Nat) (M : List (Value × Value)) (w : World) : Prop :=
  ∃ mb r L, Cac P Tc Tn kT c mb r most L w ∧ L.map kv = M ∧ L.length ≤ most ∧ ∀ k, cacS c mb r L k → ¬ N k

section
variable {P : Program} {Tc Tn kT : TypeId} {N : Nat → Prop} {c mb r most : Nat} {M M' : List (Value × Value)} {L L' : List It} {w w' : World}
theorem Kv.keep {F : Nat → Prop} (h : Kv P Tc Tn kT N c most M w) (hf : Fr F w w') (hs : ∀ k, k < w.heap.size → F k → N k) : Kv P Tc Tn kT N c most M w' := by
  obtain ⟨mb, r, L, h1, h2, h3, h4⟩ := h
  exact ⟨mb, r, L, h1.keep hf (fun k hk hF => h4 k hk (hs k (h1.lt hk) hF)), h2, h3, h4⟩
theorem Kv.below (h : Kv P Tc Tn kT N c most M w) (hb : Below w.heap.size w w') : Kv P Tc Tn kT N c most M w' := h.keep (F := fun _ => False) (Fr.of_below hb) (fun _ _ h => h.elim)
theorem Kv.drew (h : Kv P Tc Tn kT N c most M w) : Kv P Tc Tn kT N c most M w.drew := h.keep (F := fun _ => False) (Fr.refl _ _).drew (fun _ _ h => h.elim)
/-- Blocks that were made since lie not in the cache. -/
theorem Kv.more {N' : Nat → Prop} (h : Kv P Tc Tn kT N c most M w) (hn : ∀ k, k < w.heap.size → N' k → N k) : Kv P Tc Tn kT N' c most M w := by
  obtain ⟨mb, r, L, h1, h2, h3, h4⟩ := h
  exact ⟨mb, r, L, h1, h2, h3, fun k hk hn' => h4 k hk (hn k (h1.lt hk) hn')⟩
theorem Kv.len (h : Kv P Tc Tn kT N c most M w) : M.length ≤ most ∧ most ≤ 4096 := by
  obtain ⟨mb, r, L, h1, rfl, h3, h4⟩ := h
  exact ⟨by simpa using h3, h1.le⟩
theorem Kv.nodup (h : Kv P Tc Tn kT N c most M w) : (M.map Prod.fst).Nodup := by
  obtain ⟨mb, r, L, h1, rfl, h3, h4⟩ := h
  have := h1.keys
  rwa [List.map_map, show Prod.fst ∘ kv = Prod.fst from rfl]
theorem Kv.lt (h : Kv P Tc Tn kT N c most M w) : c < w.heap.size ∧ ¬ N c := by
  obtain ⟨mb, r, L, h1, rfl, h3, h4⟩ := h
  exact ⟨h1.lt (.inl rfl), h4 c (.inl rfl)⟩
/-- A step of the cache: it stays in none of the blocks N, and these stay as they were. -/
theorem kv_step (h : Cac P Tc Tn kT c mb r most L w) (h4 : ∀ k, cacS c mb r L k → ¬ N k) (hN : ∀ k, N k → k < w.heap.size) (hC : Cac P Tc Tn kT c mb r most L' w') (hl : L'.length ≤ most) (hb : ∀ x ∈ L', bl x ∈ r :: L.map bl ∨ w.heap.size ≤ bl x) (F : Fr (cacW mb r L) w w') :
    Kv P Tc Tn kT N c most (L'.map kv) w' ∧ Fr (fun k => ¬ N k) w w' := by
  refine ⟨⟨mb, r, L', hC, rfl, hl, fun k hk hn => ?_⟩, F.mono fun k hk hn => ?_⟩
  · rcases hk with rfl | rfl | hk
    · exact h4 _ (.inl rfl) hn
    · exact h4 _ (.inr (.inl rfl)) hn
    · rcases List.mem_cons.1 hk with rfl | hk
      · exact h4 _ (.inr (.inr List.mem_cons_self)) hn
      · obtain ⟨x, hx, rfl⟩ := List.mem_map.1 hk
        rcases hb x hx with h | h
        · exact h4 _ (.inr (.inr h)) hn
        · have := hN _ hn; omega
  · rcases hk with rfl | hk
    · exact h4 _ (.inr (.inl rfl)) hn
    · exact h4 _ (.inr (.inr hk)) hn
end
end Go.Proofs.Ytkbcfagggjfhhaa
