/- What the laws share: numbers that came in, small facts on sizes. Conditions: none. -/
import Derived.Test.YtnoelffaccekjaaDoorRef3
import Derived.ProofKit
namespace Go.Proofs.YtnoelffaccekjaaDoor
open Go.RowKit Go.ChangeShapes Go.WideShapes

/-- What the walk is told of a slice of integers that came in. -/
def IsRow (k : IntKind) (w : World) (a : Option Addr) (len cap : Nat) (zs : List Int) : Prop :=
  (a = none ∧ len = 0 ∧ cap = 0 ∧ zs = []) ∨
  ∃ x, a = some x ∧ len ≤ cap ∧ cap ≤ maxLen ∧ zs.length = cap ∧ (∀ i, i < zs.length → w.cell? (x.add i) = some (.int k (zs.getD i 0))) ∧ ∀ n ∈ zs, (Lit.int k n).wf = true

theorem IsRow.nums {w : World} {a : Option Addr} {len cap : Nat} {zs : List Int} (h : IsRow .u64 w a len cap zs) : ∃ l : List Nat, l.length = len ∧ Dig BB l ∧ RdN w (.slice a len cap) l ∧ len ≤ 9223372036854775807 := by
  rcases h with ⟨rfl, rfl, rfl, rfl⟩ | ⟨⟨b, off, sp⟩, rfl, hl, hm, hz, hc, hw⟩
  · exact ⟨[], rfl, Dig.nil _, Rd.nil _ _, by omega⟩
  · have hwf : ∀ i, i < zs.length → 0 ≤ zs.getD i 0 ∧ zs.getD i 0 < 18446744073709551616 := fun i hi => by
      have := hw (zs.getD i 0) (by rw [List.getD_eq_getElem?_getD, List.getElem?_eq_getElem hi]; exact List.getElem_mem hi)
      have := (by simpa [Lit.wf, IntKind.min, IntKind.max, IntKind.bits, IntKind.signed] using this : 0 ≤ zs.getD i 0 ∧ zs.getD i 0 ≤ 18446744073709551615)
      omega
    have hlen : ((zs.take len).map Int.toNat).length = len := by simp; omega
    have hget : ∀ j, j < len → ((zs.take len).map Int.toNat)[j]? = some (zs.getD j 0).toNat := fun j hj => by
      rw [List.getElem?_map, List.getElem?_take_of_lt hj, List.getElem?_eq_getElem (by omega), List.getD_eq_getElem?_getD, List.getElem?_eq_getElem (by omega)]; rfl
    refine ⟨(zs.take len).map Int.toNat, hlen, fun x hx => ?_, ⟨some ⟨b, off, sp⟩, cap, by rw [List.length_map, hlen], by rw [List.length_map, hlen]; exact hl, hm, (fun h => by simp at h), fun j u hj => ?_⟩, by unfold maxLen at hm; omega⟩
    · obtain ⟨j, hj, rfl⟩ := List.getElem_of_mem hx
      rw [hlen] at hj
      have e := hget j hj
      rw [List.getElem?_eq_getElem (by omega)] at e
      rw [Option.some.inj e]
      have := hwf j (by omega)
      unfold BB; omega
    · have hj' : j < len := by
        have := (List.getElem?_eq_some_iff.1 hj).1
        rw [List.length_map, hlen] at this; exact this
      have hs : sp = none := by simpa [Addr.add] using World.cell?_spot (hc 0 (by omega))
      subst hs
      have hc' := hc j (by omega)
      rw [add_plain] at hc'
      rw [List.getElem?_map, hget j hj', Option.map_some, Option.some.injEq] at hj
      have := hwf j (by omega)
      exact ⟨b, off, rfl, trivial, by rw [hc', ← hj, L64, Int.toNat_of_nonneg this.1]⟩

/-- The cells of a block that is new. -/
theorem rd_arr {N : Nat → Prop} {W : World} {B n : Nat} {E : TypeId} {c : Array Value} {fz : Nat × Nat} (h : W.heap[B]? = some (.cells c E fz)) (hN : N B) (hn : c.size = n) (hm : n ≤ maxLen) : Rd N W (.slice (some ⟨B, 0, none⟩) n n) c.toList :=
  ⟨some ⟨B, 0, none⟩, n, by rw [Array.length_toList, hn], by rw [Array.length_toList, hn]; exact Nat.le_refl _, hm, (fun h => by simp at h), fun j u hj => ⟨B, 0, rfl, hN, cell_at h (by rw [Nat.zero_add, ← hj, Array.getElem?_toList])⟩⟩

theorem below_alloc (w : World) (o : Obj) : Below w.heap.size w (w.alloc o) := (Below.refl _ _).alloc (Nat.le_refl _) _
theorem below_a {w w' : World} {o : Obj} (h : Below (w.alloc o).heap.size (w.alloc o) w') : Below w.heap.size w w' := (below_alloc w o).trans (h.mono (by simp))
theorem digs_small {n : Nat} (h0 : n ≠ 0) (h : n < BB) : digs BB n = [n] := by
  rw [digs_pos BB_two (by omega), Nat.div_eq_of_lt h, Nat.mod_eq_of_lt h, digs_zero]

theorem mulR_small {A B : Nat} (h : bitN A + bitN B ≤ 65536) : mulR A B = (A * B, 0) := by
  unfold mulR
  by_cases h0 : A = 0 ∨ B = 0
  · rw [if_pos h0]
    rcases h0 with rfl | rfl <;> simp
  · rw [if_neg h0, if_neg (by omega)]

theorem bitN_add_le (a b : Nat) : bitN (a + b) ≤ bitN a + bitN b + 1 := by
  rw [bitN_le, Nat.pow_succ, Nat.pow_add]
  have h1 := bitN_lt a
  have h2 := bitN_lt b
  have h3 : 2 ^ bitN a ≤ 2 ^ bitN a * 2 ^ bitN b := Nat.le_mul_of_pos_right _ (Nat.pow_pos (by omega))
  have h4 : 2 ^ bitN b ≤ 2 ^ bitN a * 2 ^ bitN b := Nat.le_mul_of_pos_left _ (Nat.pow_pos (by omega))
  omega

theorem val_bits {l : List Nat} {k : Nat} (hd : Dig BB l) (h : l.length ≤ k) : bitN (val BB l) ≤ 64 * k := digs_bits (digs_bound hd h rfl)

theorem heap_new2 (w : World) (o1 o2 : Obj) : ((w.alloc o1).alloc o2).heap[w.heap.size + 1]? = some o2 := by
  have := heap_alloc_new (w.alloc o1) o2
  rw [show (w.alloc o1).heap.size = w.heap.size + 1 by simp] at this
  exact this
theorem heap_new3 (w : World) (o1 o2 o3 : Obj) : (((w.alloc o1).alloc o2).alloc o3).heap[w.heap.size + 1 + 1]? = some o3 := by
  have := heap_new2 (w.alloc o1) o2 o3
  rw [show (w.alloc o1).heap.size = w.heap.size + 1 by simp] at this
  exact this
theorem digsDlen {n k : Nat} (h : bitN n ≤ k) : (digs DD n).length ≤ k := by
  rw [digs_length_le DD_two, DD_pow, ← Nat.pow_mul]
  exact bitN_le.1 (by omega)
theorem u64_nat {a : Int} (h : (Lit.int .u64 a).wf = true) : ∃ n : Nat, a = (n : Int) ∧ n < BB := by
  have h2 := (by simpa [Lit.wf, IntKind.min, IntKind.max, IntKind.bits, IntKind.signed] using h : 0 ≤ a ∧ a ≤ 18446744073709551615)
  exact ⟨a.toNat, by omega, by unfold BB; omega⟩
end Go.Proofs.YtnoelffaccekjaaDoor
