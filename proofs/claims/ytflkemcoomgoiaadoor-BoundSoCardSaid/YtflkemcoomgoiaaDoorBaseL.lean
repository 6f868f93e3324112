/- Numbers as lists of digits to a base, the lowest first: what they are worth, without leading noughts, and back. Conditions: the base is 2 at least. -/
import Derived.WalkKit
import Derived.Deep.Draws
import Derived.Lib.Hide
import Derived.ArgAppend
import Derived.Lib.BitFns
namespace Go.Proofs.YtflkemcoomgoiaaDoor
set_option maxRecDepth 100000

/-- What digits to the base B are worth. -/
def val (B : Nat) : List Nat → Nat
  | [] => 0
  | x :: l => x + B * val B l

/-- Without leading noughts. -/
def strip : List Nat → List Nat
  | [] => []
  | x :: l => if strip l = [] ∧ x = 0 then [] else x :: strip l

/-- The digits of a number, at most so many steps. -/
def digsF (B : Nat) : Nat → Nat → List Nat
  | 0, _ => []
  | f + 1, n => if n = 0 then [] else (n % B) :: digsF B f (n / B)

/-- The digits of a number. -/
def digs (B n : Nat) : List Nat := digsF B n n

/-- All digits are digits. -/
def Dig (B : Nat) (l : List Nat) : Prop := ∀ x ∈ l, x < B

theorem Dig.nil (B : Nat) : Dig B [] := by simp [Dig]
theorem Dig.cons {B x : Nat} {l : List Nat} (hx : x < B) (h : Dig B l) : Dig B (x :: l) := by
  intro y hy
  rcases List.mem_cons.1 hy with rfl | hy
  · exact hx
  · exact h y hy
theorem Dig.head {B x : Nat} {l : List Nat} (h : Dig B (x :: l)) : x < B := h x (by simp)
theorem Dig.tail {B x : Nat} {l : List Nat} (h : Dig B (x :: l)) : Dig B l := fun y hy => h y (by simp [hy])
theorem Dig.append {B : Nat} {l m : List Nat} (h : Dig B l) (k : Dig B m) : Dig B (l ++ m) := by
  intro y hy
  rcases List.mem_append.1 hy with hy | hy
  · exact h y hy
  · exact k y hy
theorem Dig.take {B : Nat} {l : List Nat} (h : Dig B l) (k : Nat) : Dig B (l.take k) := fun y hy => h y (List.mem_of_mem_take hy)
theorem Dig.drop {B : Nat} {l : List Nat} (h : Dig B l) (k : Nat) : Dig B (l.drop k) := fun y hy => h y (List.mem_of_mem_drop hy)
theorem Dig.getD {B : Nat} {l : List Nat} (h : Dig B l) (hB : 0 < B) (k : Nat) : l.getD k 0 < B := by
  rw [List.getD_eq_getElem?_getD]
  by_cases hk : k < l.length
  · simp only [List.getElem?_eq_getElem hk, Option.getD_some]; exact h _ (List.getElem_mem hk)
  · simp [List.getElem?_eq_none (Nat.le_of_not_lt hk), hB]
theorem Dig.replicate {B : Nat} (hB : 0 < B) (n : Nat) : Dig B (List.replicate n 0) := by
  intro y hy
  rw [(List.mem_replicate.1 hy).2]; exact hB
theorem Dig.set {B : Nat} {l : List Nat} (h : Dig B l) (k : Nat) {x : Nat} (hx : x < B) : Dig B (l.set k x) := by
  intro y hy
  rcases List.mem_or_eq_of_mem_set hy with hy | rfl
  · exact h y hy
  · exact hx

@[simp] theorem val_nil (B : Nat) : val B [] = 0 := rfl
@[simp] theorem val_cons (B x : Nat) (l : List Nat) : val B (x :: l) = x + B * val B l := rfl
theorem val_one (B x : Nat) : val B [x] = x := by simp

theorem val_append (B : Nat) (l m : List Nat) : val B (l ++ m) = val B l + B ^ l.length * val B m := by
  induction l with
  | nil => simp
  | cons x l ih => simp only [List.cons_append, val_cons, ih, List.length_cons, Nat.pow_succ, Nat.mul_add, Nat.add_assoc]; rw [← Nat.mul_assoc, Nat.mul_comm B (B ^ l.length)]

theorem val_lt {B : Nat} {l : List Nat} (h : Dig B l) : val B l < B ^ l.length := by
  induction l with
  | nil => simp
  | cons x l ih =>
    have hx := h.head
    have := ih h.tail
    simp only [val_cons, List.length_cons, Nat.pow_succ]
    have h1 : B * (val B l + 1) ≤ B * B ^ l.length := Nat.mul_le_mul_left _ this
    rw [Nat.mul_add, Nat.mul_one, Nat.mul_comm B (B ^ l.length)] at h1
    omega

theorem val_replicate (B n : Nat) : val B (List.replicate n 0) = 0 := by
  induction n with
  | zero => rfl
  | succ n ih => simp [List.replicate_succ, ih]

theorem val_take_drop (B : Nat) (l : List Nat) (k : Nat) (hk : k ≤ l.length) : val B l = val B (l.take k) + B ^ k * val B (l.drop k) := by
  have := val_append B (l.take k) (l.drop k)
  rw [List.take_append_drop, List.length_take, Nat.min_eq_left hk] at this
  exact this

theorem val_take_succ (B : Nat) (l : List Nat) (k : Nat) : val B (l.take (k + 1)) = val B (l.take k) + B ^ k * l.getD k 0 := by
  induction l generalizing k with
  | nil => simp
  | cons x l ih =>
    cases k with
    | zero => simp
    | succ k =>
      simp only [List.take_succ_cons, val_cons, ih k, List.getD_cons_succ, Nat.pow_succ, Nat.mul_add, Nat.add_assoc]
      rw [← Nat.mul_assoc, Nat.mul_comm B (B ^ k)]

theorem val_take_ge (B : Nat) (l : List Nat) (k : Nat) (hk : l.length ≤ k) : val B (l.take k) = val B l := by rw [List.take_of_length_le hk]

theorem val_set_take (B : Nat) (l : List Nat) (k x : Nat) (hk : k < l.length) : val B ((l.set k x).take (k + 1)) = val B (l.take k) + B ^ k * x := by
  rw [val_take_succ, List.take_set_of_le (Nat.le_refl k)]
  simp [hk]

theorem strip_nil_iff (B : Nat) (l : List Nat) (hB : 0 < B) : strip l = [] ↔ val B l = 0 := by
  induction l with
  | nil => simp [strip]
  | cons x l ih =>
    simp only [strip, val_cons]
    by_cases h : strip l = [] ∧ x = 0
    · rw [if_pos h]; have := ih.1 h.1; simp [this, h.2]
    · rw [if_neg h]
      constructor
      · intro h'; cases h'
      · intro h'
        exfalso; apply h
        have h1 : B * val B l = 0 := by omega
        have h2 : val B l = 0 := by
          rcases Nat.mul_eq_zero.1 h1 with h | h
          · omega
          · exact h
        exact ⟨ih.2 h2, by omega⟩

theorem digsF_more (B : Nat) (hB : 2 ≤ B) : ∀ (f n : Nat), n ≤ f → digsF B f n = digsF B n n := by
  intro f
  induction f using Nat.strongRecOn with
  | ind f ih =>
    intro n hn
    by_cases h0 : n = 0
    · subst h0; cases f <;> simp [digsF]
    · obtain ⟨f', rfl⟩ : ∃ f', f = f' + 1 := ⟨f - 1, by omega⟩
      obtain ⟨n', rfl⟩ : ∃ n', n = n' + 1 := ⟨n - 1, by omega⟩
      have hd : (n' + 1) / B ≤ n' := by
        have : (n' + 1) / B < n' + 1 := Nat.div_lt_self (by omega) (by omega)
        omega
      simp only [digsF, if_neg h0]
      rw [ih f' (by omega) _ (by omega)]
      by_cases he : n' = f'
      · subst he; rw [ih n' (by omega) _ hd]
      · rw [ih n' (by omega) _ hd]

theorem digs_zero (B : Nat) : digs B 0 = [] := rfl
theorem digs_pos {B : Nat} (hB : 2 ≤ B) {n : Nat} (hn : 0 < n) : digs B n = (n % B) :: digs B (n / B) := by
  obtain ⟨n', rfl⟩ : ∃ n', n = n' + 1 := ⟨n - 1, by omega⟩
  have hd : (n' + 1) / B ≤ n' := by
    have : (n' + 1) / B < n' + 1 := Nat.div_lt_self (by omega) (by omega)
    omega
  unfold digs
  simp only [digsF, if_neg (by omega : ¬ n' + 1 = 0)]
  rw [digsF_more B hB n' _ hd]

theorem digs_cons {B : Nat} (hB : 2 ≤ B) {x m : Nat} (hx : x < B) (h : x + B * m ≠ 0) : digs B (x + B * m) = x :: digs B m := by
  rw [digs_pos hB (by omega)]
  have h1 : (x + B * m) % B = x := by rw [Nat.add_mul_mod_self_left]; exact Nat.mod_eq_of_lt hx
  have h2 : (x + B * m) / B = m := by rw [Nat.add_mul_div_left _ _ (by omega), Nat.div_eq_of_lt hx]; omega
  rw [h1, h2]

theorem strip_eq {B : Nat} (hB : 2 ≤ B) {l : List Nat} (h : Dig B l) : strip l = digs B (val B l) := by
  induction l with
  | nil => rfl
  | cons x l ih =>
    have hn := strip_nil_iff B l (by omega)
    simp only [strip, val_cons]
    by_cases hc : strip l = [] ∧ x = 0
    · rw [if_pos hc, hn.1 hc.1, hc.2]; rfl
    · rw [if_neg hc, ih h.tail, digs_cons hB h.head]
      intro h0
      apply hc
      have h1 : B * val B l = 0 := by omega
      have h2 : val B l = 0 := by
        rcases Nat.mul_eq_zero.1 h1 with h | h
        · omega
        · exact h
      exact ⟨hn.2 h2, by omega⟩

theorem digs_ind {B : Nat} (hB : 2 ≤ B) {p : Nat → Prop} (h0 : p 0) (hs : ∀ n, 0 < n → p (n / B) → p n) : ∀ n, p n := by
  intro n
  induction n using Nat.strongRecOn with
  | ind n ih =>
    by_cases h : n = 0
    · rw [h]; exact h0
    · exact hs n (by omega) (ih _ (Nat.div_lt_self (by omega) (by omega)))

theorem val_digs {B : Nat} (hB : 2 ≤ B) (n : Nat) : val B (digs B n) = n := by
  refine digs_ind hB (p := fun n => val B (digs B n) = n) rfl (fun n hn ih => ?_) n
  rw [digs_pos hB hn, val_cons, ih]
  have := Nat.mod_add_div n B
  omega

theorem dig_digs {B : Nat} (hB : 2 ≤ B) (n : Nat) : Dig B (digs B n) := by
  refine digs_ind hB (p := fun n => Dig B (digs B n)) (Dig.nil B) (fun n hn ih => ?_) n
  rw [digs_pos hB hn]
  exact Dig.cons (Nat.mod_lt _ (by omega)) ih

theorem digs_inj {B : Nat} (hB : 2 ≤ B) {m n : Nat} (h : digs B m = digs B n) : m = n := by
  rw [← val_digs hB m, h, val_digs hB n]

theorem strip_digs {B : Nat} (hB : 2 ≤ B) (n : Nat) : strip (digs B n) = digs B n := by
  rw [strip_eq hB (dig_digs hB n), val_digs hB]

theorem digs_nil_iff {B : Nat} (hB : 2 ≤ B) (n : Nat) : digs B n = [] ↔ n = 0 := by
  constructor
  · intro h; rw [← val_digs hB n, h]; rfl
  · rintro rfl; rfl

theorem digs_length_le {B : Nat} (hB : 2 ≤ B) (n k : Nat) : (digs B n).length ≤ k ↔ n < B ^ k := by
  induction k generalizing n with
  | zero =>
    simp only [Nat.le_zero, List.length_eq_zero_iff, digs_nil_iff hB, Nat.pow_zero]; omega
  | succ k ih =>
    by_cases h0 : n = 0
    · subst h0; simp [digs_zero]; exact Nat.pow_pos (by omega)
    · rw [digs_pos hB (by omega), List.length_cons, Nat.add_le_add_iff_right, ih, Nat.div_lt_iff_lt_mul (by omega), Nat.pow_succ]

theorem strip_length_le (l : List Nat) : (strip l).length ≤ l.length := by
  induction l with
  | nil => simp [strip]
  | cons x l ih =>
    simp only [strip]
    split
    · simp
    · simp only [List.length_cons]; omega

/-- What stands above the place where all is nought plays no part. -/
theorem strip_take (l : List Nat) (k : Nat) (h : ∀ j, k ≤ j → l.getD j 0 = 0) : strip (l.take k) = strip l := by
  induction l generalizing k with
  | nil => simp
  | cons x l ih =>
    cases k with
    | zero =>
      have hx : x = 0 := by simpa using h 0 (Nat.le_refl _)
      have : strip l = [] := by
        have := ih 0 (fun j _ => by simpa using h (j + 1) (by omega))
        simpa [strip] using this.symm
      simp [strip, this, hx]
    | succ k =>
      have := ih k (fun j hj => by simpa using h (j + 1) (by omega))
      simp only [List.take_succ_cons, strip, this]

/-- A list whose last digit isn't nought is bare. -/
theorem strip_self (l : List Nat) (h : l = [] ∨ l.getD (l.length - 1) 0 ≠ 0) : strip l = l := by
  induction l with
  | nil => rfl
  | cons x l ih =>
    rcases h with h | h
    · cases h
    · cases l with
      | nil => simp [strip] at h ⊢; exact h
      | cons y l =>
        have := ih (.inr (by simpa using h))
        rw [strip, this]
        simp
end Go.Proofs.YtflkemcoomgoiaaDoor

/- A frame relation that names the blocks that may have turned; slices that read as lists; append onto a row of the call's own of whatever slice reads. Conditions: none. -/
namespace Go.Proofs.YtflkemcoomgoiaaDoor
set_option maxRecDepth 100000
open Go.RowKit

/-- Of the blocks that were there those beyond S have not turned. -/
structure Fr (S : Nat → Prop) (w w' : World) : Prop where
  os : w'.os = w.os
  tape : w'.tape = w.tape
  output : w'.output = w.output
  size : w.heap.size ≤ w'.heap.size
  block : ∀ k, k < w.heap.size → ¬ S k → w'.heap[k]? = w.heap[k]?

section
variable {S : Nat → Prop} {w w' w'' : World}
theorem Fr.refl (S : Nat → Prop) (w : World) : Fr S w w := ⟨rfl, rfl, rfl, Nat.le_refl _, fun _ _ _ => rfl⟩
theorem Fr.trans (h : Fr S w w') (k : Fr S w' w'') : Fr S w w'' :=
  ⟨k.os.trans h.os, k.tape.trans h.tape, k.output.trans h.output, Nat.le_trans h.size k.size, fun i hi hs => (k.block i (Nat.lt_of_lt_of_le hi h.size) hs).trans (h.block i hi hs)⟩
theorem Fr.mono {S' : Nat → Prop} (h : Fr S w w') (hs : ∀ k, S k → S' k) : Fr S' w w' :=
  ⟨h.os, h.tape, h.output, h.size, fun k hk hn => h.block k hk (fun hS => hn (hs k hS))⟩
theorem Fr.drew (h : Fr S w w') : Fr S w w'.drew := ⟨h.os, h.tape, h.output, h.size, h.block⟩
theorem Fr.alloc (h : Fr S w w') (o : Obj) : Fr S w (w'.alloc o) :=
  h.trans ⟨rfl, rfl, rfl, by simp, fun k hk _ => Below.heap_alloc _ _ _ hk⟩
theorem Fr.setCell (h : Fr S w w') {p : Addr} (hp : S p.block) (u : Value) : Fr S w (w'.setCell p u) :=
  h.trans ⟨rfl, rfl, rfl, by simp [World.setCell], fun k _ hn => Below.heap_setCell _ _ _ _ (fun e => hn (e ▸ hp))⟩
theorem Fr.of_below (h : Below w.heap.size w w') : Fr S w w' := ⟨h.os, h.tape, h.output, h.size, fun k hk _ => h.block k hk⟩
theorem Fr.below {B : Nat} (h : Fr S w w') (hB : B ≤ w.heap.size) (hs : ∀ k, k < B → ¬ S k) : Below B w w' :=
  ⟨h.os, h.tape, h.output, h.size, fun k hk => h.block k (by omega) (hs k hk)⟩
theorem Fr.at (h : Fr S w w') {k : Nat} {o : Obj} (hk : w.heap[k]? = some o) (hs : ¬ S k) : w'.heap[k]? = some o := by
  have hlt : k < w.heap.size := by
    rcases Nat.lt_or_ge k w.heap.size with h | h
    · exact h
    · simp [Array.getElem?_eq_none h] at hk
  rw [h.block k hlt hs, hk]
theorem Fr.at_cell (h : Fr S w w') {p : Addr} {v : Value} (hc : w.cell? p = some v) (hs : ¬ S p.block) : w'.cell? p = some v :=
  (World.cell?_of_block (h.block p.block (World.block_lt_of_cell? w p hc) hs)).trans hc
theorem Fr.of_drewN (w : World) (n : Nat) : Fr (fun _ => False) w (w.drewN n) := ⟨rfl, rfl, rfl, Nat.le_refl _, fun _ _ _ => rfl⟩
theorem below_drewN {B : Nat} {a w : World} (h : Below B a w) (n : Nat) : Below B a (w.drewN n) := ⟨h.os, h.tape, h.output, h.size, h.block⟩
theorem Fr.of_drew (h : Fr S w.drew w') : Fr S w w' := ⟨h.os, h.tape, h.output, h.size, h.block⟩
end

theorem ownsRow_fr {S : Nat → Prop} {w w' : World} {base : Nat} {e : TypeId} {size : Nat} {v : Value} {n : Nat} {xs : List Value} (h : w.ownsRow base e size v n xs) (hf : Fr S w w') (hs : ∀ k, base ≤ k → ¬ S k) : w'.ownsRow base e size v n xs := by
  refine ⟨h.1, ?_⟩
  rcases h.2 with h | ⟨g, cap, cur, h1, h2, h3, h4⟩
  · exact .inl h
  · exact .inr ⟨g, cap, cur, h1, h2, hf.at h3 (hs g h2), h4⟩
theorem Fr.grown {S : Nat → Prop} {w w' w'' : World} {row : Option Nat} (h : Fr S w w') (hg : w'.grownBy w'' row) (hr : ∀ k, row = some k → w.heap.size ≤ k) : Fr S w w'' :=
  ⟨hg.os.trans h.os, hg.tape.trans h.tape, hg.output.trans h.output, Nat.le_trans h.size hg.size, fun k hk hn => (hg.block k (Nat.lt_of_lt_of_le hk h.size) (fun e => by have := hr k e.symm; omega)).trans (h.block k hk hn)⟩

/-- A slice of elements of one cell that reads as xs; the block of its cells is such as N asks. -/
def Rd (N : Nat → Prop) (w : World) (v : Value) (xs : List Value) : Prop :=
  ∃ a c, v = .slice a xs.length c ∧ xs.length ≤ c ∧ c ≤ maxLen ∧ (a = none → c = 0) ∧ ∀ j u, xs[j]? = some u → ∃ g off, a = some ⟨g, off, none⟩ ∧ N g ∧ w.cell? ⟨g, off + j, none⟩ = some u

section
variable {N : Nat → Prop} {w w' : World} {v x : Value} {xs ys : List Value}
theorem Rd.nil (N : Nat → Prop) (w : World) : Rd N w (.slice none 0 0) [] := ⟨none, 0, rfl, Nat.le_refl _, by decide, fun _ => rfl, fun j u h => by simp at h⟩
theorem Rd.keep {S : Nat → Prop} (h : Rd N w v xs) (hf : Fr S w w') (hs : ∀ g, N g → ¬ S g) : Rd N w' v xs := by
  obtain ⟨a, c, h1, h2, h3, h4, h5⟩ := h
  refine ⟨a, c, h1, h2, h3, h4, fun j u hj => ?_⟩
  obtain ⟨g, off, e1, e2, e3⟩ := h5 j u hj
  exact ⟨g, off, e1, e2, hf.at_cell e3 (hs g e2)⟩
theorem Rd.below (h : Rd N w v xs) (hb : Below w.heap.size w w') : Rd N w' v xs := h.keep (S := fun _ => False) (Fr.of_below hb) (fun _ _ h => h)
theorem Rd.mono {N' : Nat → Prop} (h : Rd N w v xs) (hn : ∀ g, g < w.heap.size → N g → N' g) : Rd N' w v xs := by
  obtain ⟨a, c, h1, h2, h3, h4, h5⟩ := h
  refine ⟨a, c, h1, h2, h3, h4, fun j u hj => ?_⟩
  obtain ⟨g, off, e1, e2, e3⟩ := h5 j u hj
  exact ⟨g, off, e1, hn g (World.block_lt_of_cell? w _ e3) e2, e3⟩
theorem Rd.of_own {base : Nat} {e : TypeId} {n : Nat} (h : w.ownsRow base e 1 v n xs) (hN : ∀ g, base ≤ g → N g) : Rd N w v xs := by
  have hl : xs.length = n := by simpa using h.1
  rcases h.2 with ⟨rfl, rfl⟩ | ⟨g, cap, cur, rfl, hb, hg, hn, hc, hs, ht⟩
  · obtain rfl : xs = [] := List.eq_nil_of_length_eq_zero hl
    exact Rd.nil N w
  · refine ⟨some ⟨g, 0, none⟩, cap, by rw [hl], by omega, hc, (fun h => by cases h), fun j u hj => ⟨g, 0, rfl, hN g hb, ?_⟩⟩
    have hjl : j < xs.length := (List.getElem?_eq_some_iff.1 hj).1
    rw [Nat.zero_add, h.cellAt j (by omega), hj]
/-- The slice as a value, its cells at a glance. -/
theorem Rd.view (h : Rd N w v xs) : ∃ a c, v = .slice a xs.length c ∧ xs.length ≤ c ∧ c ≤ maxLen ∧ (a = none → c = 0) ∧ ∀ j, j < xs.length → ∃ g off, a = some ⟨g, off, none⟩ ∧ N g ∧ g < w.heap.size ∧ w.cell? ⟨g, off + j, none⟩ = some (xs[j]?.getD undef) := by
  obtain ⟨a, c, h1, h2, h3, h4, h5⟩ := h
  refine ⟨a, c, h1, h2, h3, h4, fun j hj => ?_⟩
  obtain ⟨g, off, e1, e2, e3⟩ := h5 j _ (List.getElem?_eq_getElem hj)
  exact ⟨g, off, e1, e2, World.block_lt_of_cell? w _ e3, by rw [e3, List.getElem?_eq_getElem hj]; rfl⟩

/-- 'append' of whatever slice onto a row of the call's own. -/
theorem run_append_rd {P : Program} (base : Nat) (t ty e : TypeId) (i : TypeInfo) (z : Value) (bytes : Nat) (ht : P.underlying t = some (.slice e)) (hi : P.info? e = some i) (hz : i.zero = some z)
    (hsize : i.size = 1) (hby : i.bytes = bytes) (hzs : z.cells.size = 1) {n : Nat} (hown : w.ownsRow base e 1 v n xs) (hr : Rd N w x ys) (h1 : ∀ u ∈ ys, u.oneCell' = true)
    (h63 : n + ys.length ≤ maxLen) (hbytes : (n + ys.length) * bytes ≤ 140737488355328) (hbase : base ≤ w.heap.size) :
    ∃ v' w', (Builtin.append_ #[t, t] ty #[v, x]).run P w = .ok v' w' ∧ w'.ownsRow base e 1 v' (n + ys.length) (xs ++ ys) ∧ w.grownBy w' v.ownBlock := by
  obtain ⟨a, c, rfl, h2, h3, h4, h5⟩ := hr
  cases a with
  | none =>
    have hc := h4 rfl
    subst hc
    have hy : ys = [] := List.eq_nil_of_length_eq_zero (by omega)
    subst hy
    exact ⟨v, w, run_append_owned_none (P := P) w base t ty e i 1 ht hi v n xs hown, by simpa using hown, World.grownBy.refl _ _⟩
  | some ad =>
    obtain ⟨v', w', hrun, r1, r2, _⟩ := run_append_own (P := P) w base t ty e i z 1 bytes ht hi hz hsize hby hzs (by decide) v n xs hown ad ys.length c ys (by simp) (fun j u hj => by
      obtain ⟨g, off, e1, _, e3⟩ := h5 j u hj
      simp only [Option.some.injEq] at e1
      subst e1
      rw [Go.WideShapes.add_plain]; exact e3) h1 h63 hbytes hbase
    exact ⟨v', w', hrun, r1, r2⟩

theorem wpList_append_rd {P : Program} {ops : Array Oper} {rest : List Oper} {o : Oper} {a : Act} {Q : Exit → Act → World → Prop} (hg : o.guard = none) (s y : Operand) (t : TypeId)
    (hop : o.op = Op.call { callee := Callee.builtin Builtin.append, args := #[s, y], argTypes := #[t, t] }) (base : Nat) (e : TypeId) (i : TypeInfo) (z : Value) (bytes : Nat) (ht : P.underlying t = some (.slice e)) (hi : P.info? e = some i) (hz : i.zero = some z)
    (hsize : i.size = 1) (hby : i.bytes = bytes) (hzs : z.cells.size = 1) {n : Nat} (hs : a.eval s = v) (hx : a.eval y = x) (hown : w.ownsRow base e 1 v n xs) (hr : Rd N w x ys) (h1 : ∀ u ∈ ys, u.oneCell' = true)
    (h63 : n + ys.length ≤ maxLen) (hbytes : (n + ys.length) * bytes ≤ 140737488355328) (hbase : base ≤ w.heap.size)
    (hK : ∀ v' w', w'.ownsRow base e 1 v' (n + ys.length) (xs ++ ys) → w.grownBy w' v.ownBlock → wpList P ops Q rest (a.put o.dst v') w') : wpList P ops Q (o :: rest) a w := by
  refine wpList_plain hg fun K hK' => ?_
  obtain ⟨v', w', hrun, r1, r2⟩ := run_append_rd (P := P) base t o.type e i z bytes ht hi hz hsize hby hzs hown hr h1 h63 hbytes hbase
  unfold Oper.wp
  simp [execOp, hop, resolve, invoke, builtin, hs, hx, hrun, Result.andThen]
  exact hK' _ _ (hK v' w' r1 r2)

theorem step_append_rd {P : Program} {ops : Array Oper} {o : Oper} {a : Act} {K : Act → World → Prop} {Q : Exit → Act → World → Prop} {E : Prop} (hg : o.guard = none) (s y : Operand) (t : TypeId)
    (hop : o.op = Op.call { callee := Callee.builtin Builtin.append, args := #[s, y], argTypes := #[t, t] }) (base : Nat) (e : TypeId) (i : TypeInfo) (z : Value) (bytes : Nat) (ht : P.underlying t = some (.slice e)) (hi : P.info? e = some i) (hz : i.zero = some z)
    (hsize : i.size = 1) (hby : i.bytes = bytes) (hzs : z.cells.size = 1) {n : Nat} (hs : a.eval s = v) (hx : a.eval y = x) (hown : w.ownsRow base e 1 v n xs) (hr : Rd N w x ys) (h1 : ∀ u ∈ ys, u.oneCell' = true)
    (h63 : n + ys.length ≤ maxLen) (hbytes : (n + ys.length) * bytes ≤ 140737488355328) (hbase : base ≤ w.heap.size)
    (hK : ∀ v' w', w'.ownsRow base e 1 v' (n + ys.length) (xs ++ ys) → w.grownBy w' v.ownBlock → K (a.put o.dst v') w') : if Region.wanted o (yielded ops a.tmps) = true then Oper.wp P o a w K Q else E := by
  have hw : Region.wanted o (yielded ops a.tmps) = true := by simp [Region.wanted, hg]
  rw [if_pos hw]
  obtain ⟨v', w', hrun, r1, r2⟩ := run_append_rd (P := P) base t o.type e i z bytes ht hi hz hsize hby hzs hown hr h1 h63 hbytes hbase
  unfold Oper.wp
  simp [execOp, hop, resolve, invoke, builtin, hs, hx, hrun, Result.andThen]
  exact hK v' w' r1 r2
end

/-! ### blocks of a world that is written out -/
theorem heap_alloc_if (W : World) (o : Obj) (k : Nat) : (W.alloc o).heap[k]? = if k = W.heap.size then some o else W.heap[k]? := by
  show (W.heap.push o)[k]? = _
  rw [Array.getElem?_push]
theorem heap_drew' (W : World) (k : Nat) : W.drew.heap[k]? = W.heap[k]? := rfl
theorem grown_heap {W w1 : World} {row : Option Nat} {k : Nat} {o : Obj} (hg : W.grownBy w1 row) (h : W.heap[k]? = some o) (hne : row ≠ some k) : w1.heap[k]? = some o := by
  have hlt : k < W.heap.size := by
    rcases Nat.lt_or_ge k W.heap.size with h' | h'
    · exact h'
    · simp [Array.getElem?_eq_none h'] at h
  rw [hg.block k hlt (fun e => hne e.symm), h]
theorem own_zero {W : World} {B base : Nat} {E : TypeId} (h : W.heap[B]? = some (.cells #[] E (0, 0))) (hb : base ≤ B) : W.ownsRow base E 1 (.slice (some ⟨B, 0, none⟩) 0 0) 0 [] :=
  ⟨rfl, .inr ⟨B, 0, #[], rfl, hb, h, Nat.le_refl _, by decide, rfl, rfl⟩⟩
theorem rd_one {N : Nat → Prop} {W : World} {B : Nat} {E : TypeId} {u : Value} {fz : Nat × Nat} (h : W.heap[B]? = some (.cells #[u] E fz)) (hN : N B) : Rd N W (.slice (some ⟨B, 0, none⟩) 1 1) [u] :=
  ⟨some ⟨B, 0, none⟩, 1, rfl, Nat.le_refl _, by decide, (fun h => by cases h), fun j u' hj => ⟨B, 0, rfl, hN, by
    cases j with
    | zero => simp at hj; subst hj; simp [World.cell?, h]
    | succ j => simp at hj⟩⟩
theorem cell_at {w : World} {b j : Nat} {c : Array Value} {T : TypeId} {fz : Nat × Nat} (h : w.heap[b]? = some (.cells c T fz)) {v : Value} (hj : c[j]? = some v) : w.cell? ⟨b, j, none⟩ = some v := by
  simp [World.cell?, h, hj]
theorem free_at {w : World} {b j : Nat} {c : Array Value} {T : TypeId} (h : w.heap[b]? = some (.cells c T (0, 0))) : w.frozen? ⟨b, j, none⟩ = false := by
  simp [World.frozen?, h]
theorem heap_setC {w : World} {b j : Nat} {c : Array Value} {T : TypeId} {fz : Nat × Nat} (h : w.heap[b]? = some (.cells c T fz)) (v : Value) :
    (w.setCell ⟨b, j, none⟩ v).heap[b]? = some (.cells (c.setIfInBounds j v) T fz) := by
  simp [World.setCell, Array.getElem?_modify, h]
theorem heap_setO {w : World} {b j k : Nat} {o : Obj} (h : w.heap[k]? = some o) (v : Value) (hne : k ≠ b) : (w.setCell ⟨b, j, none⟩ v).heap[k]? = some o := by
  rw [Below.heap_setCell _ _ _ _ hne, h]
theorem Fr.one (w : World) (b j : Nat) (v : Value) : Fr (fun k => k = b) w (w.setCell ⟨b, j, none⟩ v) := (Fr.refl (fun k => k = b) w).setCell (p := ⟨b, j, none⟩) rfl v
end Go.Proofs.YtflkemcoomgoiaaDoor

/- How many bits a number has, and what that is of its digits. Conditions: the base is a power of two. -/
namespace Go.Proofs.YtflkemcoomgoiaaDoor
set_option maxRecDepth 100000

/-- How many bits. -/
def bitN (n : Nat) : Nat := if n = 0 then 0 else n.log2 + 1

theorem bitN_le {n k : Nat} : bitN n ≤ k ↔ n < 2 ^ k := by
  unfold bitN
  by_cases h : n = 0
  · simp [h, Nat.pow_pos]
  · rw [if_neg h, ← Nat.log2_lt h]; exact Nat.succ_le_iff
theorem lt_bitN {n k : Nat} : k < bitN n ↔ 2 ^ k ≤ n := by
  rw [← Nat.not_le, bitN_le, Nat.not_lt]
theorem bitN_zero : bitN 0 = 0 := rfl
theorem bitN_one : bitN 1 = 1 := by decide
theorem bitN_lt (n : Nat) : n < 2 ^ bitN n := bitN_le.1 (Nat.le_refl _)
theorem bitN_pos {n : Nat} (h : n ≠ 0) : 0 < bitN n := lt_bitN.2 (by simp; omega)
theorem bitN_ge {n : Nat} (h : n ≠ 0) : 2 ^ (bitN n - 1) ≤ n := lt_bitN.1 (by have := bitN_pos h; omega)
theorem bitN_mono {a b : Nat} (h : a ≤ b) : bitN a ≤ bitN b := bitN_le.2 (Nat.lt_of_le_of_lt h (bitN_lt b))
theorem bitN_eq {a c : Nat} (h : ∀ k, a < 2 ^ k ↔ c ≤ k) : bitN a = c :=
  Nat.le_antisymm (bitN_le.2 ((h c).2 (Nat.le_refl _))) ((h _).1 (bitN_lt a))
theorem bitN_add {p lo t : Nat} (h : lo < 2 ^ p) (ht : t ≠ 0) : bitN (lo + 2 ^ p * t) = p + bitN t := by
  have h1 := bitN_ge ht
  have h0 := bitN_pos ht
  apply Nat.le_antisymm
  · rw [bitN_le, Nat.pow_add]
    have h2 : t + 1 ≤ 2 ^ bitN t := bitN_lt t
    have h3 := Nat.mul_le_mul_left (2 ^ p) h2
    rw [Nat.mul_add] at h3; omega
  · have : p + bitN t - 1 < bitN (lo + 2 ^ p * t) := by
      rw [lt_bitN, show p + bitN t - 1 = p + (bitN t - 1) by omega, Nat.pow_add]
      have h3 := Nat.mul_le_mul_left (2 ^ p) h1
      omega
    omega
theorem bitN_mul_le (a b : Nat) : bitN (a * b) ≤ bitN a + bitN b := by
  rw [bitN_le, Nat.pow_add]
  exact Nat.mul_lt_mul'' (bitN_lt a) (bitN_lt b)
theorem bitN_mul_ge {a b : Nat} (ha : a ≠ 0) (hb : b ≠ 0) : bitN a + bitN b ≤ bitN (a * b) + 1 := by
  have h0 := bitN_pos ha
  have h1 := bitN_pos hb
  have : bitN a - 1 + (bitN b - 1) < bitN (a * b) := by
    rw [lt_bitN, Nat.pow_add]
    exact Nat.mul_le_mul (bitN_ge ha) (bitN_ge hb)
  omega
theorem bitN_pow_le (a k : Nat) : bitN (a ^ k) ≤ bitN a * k + 1 := by
  rw [bitN_le, Nat.pow_succ, Nat.pow_mul]
  have := Nat.pow_le_pow_left (Nat.le_of_lt (bitN_lt a)) k
  have h2 : 0 < (2 ^ bitN a) ^ k := Nat.pow_pos (Nat.pow_pos (by omega))
  omega
theorem bitN_pow_ge {a : Nat} (ha : a ≠ 0) (k : Nat) : (bitN a - 1) * k < bitN (a ^ k) := by
  rw [lt_bitN, Nat.pow_mul]
  exact Nat.pow_le_pow_left (bitN_ge ha) k
theorem bitN_pow_le' {a k : Nat} (hk : 0 < k) : bitN (a ^ k) ≤ bitN a * k := by
  rw [bitN_le, Nat.pow_mul]
  exact Nat.pow_lt_pow_left (bitN_lt a) (by omega)

theorem bitN_half {x : Nat} (h : x ≠ 0) : bitN x = 1 + bitN (x / 2) := by
  by_cases h2 : x / 2 = 0
  · rw [h2, show x = 1 by omega]; decide
  · have := bitN_add (p := 1) (lo := x % 2) (t := x / 2) (by simp; omega) h2
    rw [show x % 2 + 2 ^ 1 * (x / 2) = x by simp; omega] at this
    exact this
theorem bitLen_bitN (x : Nat) (h : x < 2 ^ 64) : Lib.bitLen x = bitN x := by
  induction x using Nat.strongRecOn with
  | ind x ih =>
    by_cases h0 : x = 0
    · subst h0; rfl
    · rw [Lib.bitLen_half x h0 h, bitN_half h0, ih (x / 2) (by omega) (by omega)]

theorem strip_top : ∀ {l : List Nat}, strip l ≠ [] → (strip l).getD ((strip l).length - 1) 0 ≠ 0
  | [], h => absurd rfl h
  | x :: l, h => by
    unfold strip at h ⊢
    split at h
    · exact absurd rfl h
    · rename_i hc
      rw [if_neg hc]
      by_cases hs : strip l = []
      · rw [hs]; simp; intro hx; exact hc ⟨hs, hx⟩
      · have := strip_top hs
        have hp := List.length_pos_iff.2 hs
        rw [List.length_cons, show (strip l).length + 1 - 1 = (strip l).length - 1 + 1 by omega]
        simpa using this

theorem val_strip (B : Nat) : ∀ l : List Nat, val B (strip l) = val B l
  | [] => rfl
  | x :: l => by
    have ih := val_strip B l
    unfold strip
    split
    · rename_i h; rw [h.1] at ih; simp [h.2, ← ih]
    · simp [ih]

theorem bits_list {p : Nat} {s : List Nat} (hd : Dig (2 ^ p) s) (hs : s ≠ []) (ht : s.getD (s.length - 1) 0 ≠ 0) :
    bitN (val (2 ^ p) s) = p * (s.length - 1) + bitN (s.getD (s.length - 1) 0) := by
  have hp := List.length_pos_iff.2 hs
  have e := val_take_succ (2 ^ p) s (s.length - 1)
  rw [show s.length - 1 + 1 = s.length by omega, List.take_length] at e
  have h1 := val_lt (hd.take (s.length - 1))
  rw [List.length_take, Nat.min_eq_left (by omega)] at h1
  rw [e]
  rw [← Nat.pow_mul] at h1 ⊢
  exact bitN_add h1 ht
theorem bits_val {p : Nat} (hp : 0 < p) {l : List Nat} (hd : Dig (2 ^ p) l) :
    (if strip l = [] then 0 else p * ((strip l).length - 1) + bitN ((strip l).getD ((strip l).length - 1) 0)) = bitN (val (2 ^ p) l) := by
  have h2 : 2 ≤ 2 ^ p := by
    have := Nat.pow_le_pow_right (n := 2) (by omega) hp
    simpa using this
  by_cases h : strip l = []
  · rw [if_pos h, (strip_nil_iff _ l (by omega)).1 h]; rfl
  · rw [if_neg h, ← val_strip]
    exact (bits_list (by rw [strip_eq h2 hd]; exact dig_digs h2 _) h (strip_top h)).symm
end Go.Proofs.YtflkemcoomgoiaaDoor

/- The plain law of prod.row: one place's work, and the sum over all. Conditions: limbs are below the base. -/
namespace Go.Proofs.YtflkemcoomgoiaaDoor
set_option maxRecDepth 100000

theorem one_place {b x n cy o : Nat} (hb : 0 < b) (hx : x < b) (hn : n < b) (hc : cy < b) (ho : o < b) :
    x * n / b + (x * n % b + cy) / b < b ∧ x * n / b + (x * n % b + cy) / b + (o + (x * n % b + cy) % b) / b < b ∧
    (o + (x * n % b + cy) % b) % b + b * (x * n / b + (x * n % b + cy) / b + (o + (x * n % b + cy) % b) / b) = x * n + cy + o := by
  have e1 := Nat.mod_add_div (x * n) b
  have e2 := Nat.mod_add_div (x * n % b + cy) b
  have e3 := Nat.mod_add_div (o + (x * n % b + cy) % b) b
  have hm : x * n ≤ (b - 1) * (b - 1) := Nat.mul_le_mul (by omega) (by omega)
  have hmm : (b - 1) * (b - 1) + 2 * (b - 1) + 1 = b * b := by
    obtain ⟨p, rfl⟩ : ∃ p, b = p + 1 := ⟨b - 1, by omega⟩
    simp only [Nat.add_sub_cancel]
    simp only [Nat.add_mul, Nat.mul_add, Nat.one_mul, Nat.mul_one]; omega
  have e : (o + (x * n % b + cy) % b) % b + b * (x * n / b + (x * n % b + cy) / b + (o + (x * n % b + cy) % b) / b) = x * n + cy + o := by
    rw [Nat.mul_add, Nat.mul_add]; omega
  have hlt : b * (x * n / b + (x * n % b + cy) / b + (o + (x * n % b + cy) % b) / b) < b * b := by omega
  have := Nat.lt_of_mul_lt_mul_left hlt
  exact ⟨Nat.lt_of_le_of_lt (Nat.le_add_right _ _) this, this, e⟩

/-- The places below off + k are done. -/
structure RowSum (b off : Nat) (l X0 : List Nat) (n k cy : Nat) (X : List Nat) : Prop where
  carry : cy < b
  len : X.length = X0.length
  dig : Dig b X
  above : ∀ j, off + k ≤ j → X.getD j 0 = X0.getD j 0
  sum : val b (X.take (off + k)) + b ^ (off + k) * cy = val b (X0.take (off + k)) + b ^ off * (val b (l.take k) * n)

theorem RowSum.start {b off n : Nat} {l X0 : List Nat} (hb : 0 < b) (h : Dig b X0) : RowSum b off l X0 n 0 0 X0 :=
  ⟨hb, rfl, h, fun _ _ => rfl, by simp⟩

theorem RowSum.step {b off n k cy : Nat} {l X0 X : List Nat} (h : RowSum b off l X0 n k cy X) (hb : 0 < b) (hl : Dig b l) (hn : n < b) (hk : off + k < X.length) :
    RowSum b off l X0 n (k + 1) (l.getD k 0 * n / b + (l.getD k 0 * n % b + cy) / b + (X.getD (off + k) 0 + (l.getD k 0 * n % b + cy) % b) / b)
      (X.set (off + k) ((X.getD (off + k) 0 + (l.getD k 0 * n % b + cy) % b) % b)) := by
  obtain ⟨p1, p2, p3⟩ := one_place hb (hl.getD hb k) hn h.carry (h.dig.getD hb (off + k))
  refine ⟨p2, by rw [List.length_set]; exact h.len, h.dig.set _ (Nat.mod_lt _ hb), fun j hj => ?_, ?_⟩
  · rw [List.getD_eq_getElem?_getD, List.getElem?_set_ne (by omega), ← List.getD_eq_getElem?_getD]
    exact h.above j (by omega)
  · rw [show off + (k + 1) = off + k + 1 by omega, val_set_take b X _ _ hk, val_take_succ, val_take_succ, Nat.pow_succ, Nat.mul_assoc, Nat.add_assoc, ← Nat.mul_add, p3, ← h.above (off + k) (Nat.le_refl _)]
    have hs := h.sum
    rw [Nat.mul_add, Nat.mul_add, Nat.add_mul, Nat.mul_add (b ^ off)]
    have e : b ^ off * (b ^ k * l.getD k 0 * n) = b ^ (off + k) * (l.getD k 0 * n) := by rw [Nat.pow_add]; simp only [Nat.mul_assoc]
    rw [e]
    omega

theorem RowSum.fin {b off n cy : Nat} {l X0 X : List Nat} (h : RowSum b off l X0 n l.length cy X) (hk : off + l.length < X.length) :
    val b ((X.set (off + l.length) cy).take (off + l.length + 1)) = val b (X0.take (off + l.length)) + b ^ off * (val b l * n) := by
  rw [val_set_take b X _ _ hk, h.sum, List.take_length]
end Go.Proofs.YtflkemcoomgoiaaDoor

/- The plain law of nat.Cmp: numbers are compared by their lengths, then by their digits from the top. Conditions: digits are digits. -/
namespace Go.Proofs.YtflkemcoomgoiaaDoor
set_option maxRecDepth 100000

/-- -1, 0, 1. -/
def cmpN (a b : Nat) : Int := if a < b then -1 else if a = b then 0 else 1
theorem cmpN_lt {a b : Nat} (h : a < b) : cmpN a b = -1 := by unfold cmpN; rw [if_pos h]
theorem cmpN_gt {a b : Nat} (h : b < a) : cmpN a b = 1 := by unfold cmpN; rw [if_neg (by omega), if_neg (by omega)]
theorem cmpN_eq (a : Nat) : cmpN a a = 0 := by unfold cmpN; rw [if_neg (by omega), if_pos rfl]
theorem cmpN_zero {a b : Nat} : cmpN a b = 0 ↔ a = b := by
  rcases Nat.lt_trichotomy a b with h | h | h
  · rw [cmpN_lt h]; omega
  · subst h; rw [cmpN_eq]; simp
  · rw [cmpN_gt h]; omega

/-- Which places have come when k rounds from the top are over. -/
def came (n k : Nat) : List Nat := (List.range k).map fun j => n - 1 - j
theorem came_succ (n k : Nat) : came n (k + 1) = came n k ++ [n - 1 - k] := by simp [came, List.range_succ]
theorem came_len (n k : Nat) : (came n k).length = k := by simp [came]
theorem came_mem {n k j : Nat} (h : j < n) (hk : n ≤ j + k) : j ∈ came n k := by
  simp only [came, List.mem_map, List.mem_range]
  exact ⟨n - 1 - j, by omega, by omega⟩

theorem lt_of_top {B : Nat} {s t : List Nat} {j : Nat} (hs : Dig B s) (hl : s.length = t.length) (hj : j < s.length) (hab : ∀ i, j < i → s.getD i 0 = t.getD i 0) (h : s.getD j 0 < t.getD j 0) : val B s < val B t := by
  have e : s.drop (j + 1) = t.drop (j + 1) := by
    apply List.ext_getElem?
    intro i
    rw [List.getElem?_drop, List.getElem?_drop]
    have := hab (j + 1 + i) (by omega)
    rw [List.getD_eq_getElem?_getD, List.getD_eq_getElem?_getD] at this
    by_cases hi : j + 1 + i < s.length
    · rw [List.getElem?_eq_getElem hi, List.getElem?_eq_getElem (by omega)] at this ⊢
      simpa using this
    · rw [List.getElem?_eq_none (by omega), List.getElem?_eq_none (by omega)]
  have e1 := val_take_drop B s (j + 1) (by omega)
  have e2 := val_take_drop B t (j + 1) (by omega)
  rw [val_take_succ] at e1 e2
  have h1 := val_lt (hs.take j)
  rw [List.length_take, Nat.min_eq_left (by omega)] at h1
  have h2 := Nat.mul_le_mul_left (B ^ j) (show s.getD j 0 + 1 ≤ t.getD j 0 from h)
  rw [Nat.mul_add] at h2
  rw [e1, e2, e]
  omega

theorem cmp_top {B : Nat} {s t : List Nat} {j : Nat} (hs : Dig B s) (ht : Dig B t) (hl : s.length = t.length) (hj : j < s.length) (hab : ∀ i, j < i → s.getD i 0 = t.getD i 0) (h : s.getD j 0 ≠ t.getD j 0) : cmpN (s.getD j 0) (t.getD j 0) = cmpN (val B s) (val B t) := by
  rcases Nat.lt_or_gt_of_ne h with h | h
  · rw [cmpN_lt h, cmpN_lt (lt_of_top hs hl hj hab h)]
  · rw [cmpN_gt h, cmpN_gt (lt_of_top ht hl.symm (by omega) (fun i hi => (hab i hi).symm) h)]

theorem cmp_same {B : Nat} {s t : List Nat} (hl : s.length = t.length) (hab : ∀ i, i < s.length → s.getD i 0 = t.getD i 0) : cmpN (val B s) (val B t) = 0 := by
  have : s = t := List.ext_getElem hl fun i h1 h2 => by
    have := hab i h1
    simpa [List.getD_eq_getElem?_getD, List.getElem?_eq_getElem h1, List.getElem?_eq_getElem h2] using this
  rw [this, cmpN_eq]

theorem cmp_len {B : Nat} (hB : 2 ≤ B) {a b : Nat} (h : (digs B a).length ≠ (digs B b).length) : cmpN (digs B a).length (digs B b).length = cmpN a b := by
  have key : ∀ {a b : Nat}, (digs B a).length < (digs B b).length → a < b := fun {a b} h => by
    have h1 := (digs_length_le hB a (digs B a).length).1 (Nat.le_refl _)
    have h2 : ¬ (digs B b).length ≤ (digs B a).length := by omega
    rw [digs_length_le hB] at h2; omega
  rcases Nat.lt_or_gt_of_ne h with h | h
  · rw [cmpN_lt h, cmpN_lt (key h)]
  · rw [cmpN_gt h, cmpN_gt (key h)]
end Go.Proofs.YtflkemcoomgoiaaDoor

/- Whole roots: Newton's step never falls below the root, and falls above it; roots of roots. Conditions: none. -/
namespace Go.Proofs.YtflkemcoomgoiaaDoor
set_option maxRecDepth 100000

/-- R is the k-th root of A, rounded down. -/
def IsRoot (A k R : Nat) : Prop := R ^ k ≤ A ∧ A < (R + 1) ^ k

theorem lt_of_pow {a b k : Nat} (h : a ^ k < b ^ k) : a < b := by
  rcases Nat.lt_or_ge a b with h1 | h1
  · exact h1
  · exact absurd h (Nat.not_lt.2 (Nat.pow_le_pow_left h1 k))
theorem pow_lt {a b k : Nat} (h : a < b) (hk : 0 < k) : a ^ k < b ^ k := Nat.pow_lt_pow_left h (by omega)
theorem pow_inj {a b k : Nat} (hk : 0 < k) (h : a ^ k = b ^ k) : a = b := by
  rcases Nat.lt_trichotomy a b with h1 | h1 | h1
  · have := pow_lt h1 hk; omega
  · exact h1
  · have := pow_lt h1 hk; omega

theorem IsRoot.le {A B k R S : Nat} (h : IsRoot A k R) (j : IsRoot B k S) (hab : A ≤ B) : R ≤ S :=
  Nat.le_of_lt_succ (lt_of_pow (Nat.lt_of_le_of_lt h.1 (Nat.lt_of_le_of_lt hab j.2)))
theorem IsRoot.uniq {A k R S : Nat} (h : IsRoot A k R) (j : IsRoot A k S) : R = S :=
  Nat.le_antisymm (h.le j (Nat.le_refl _)) (j.le h (Nat.le_refl _))
theorem IsRoot.exists {k : Nat} (hk : 0 < k) : ∀ A, ∃ R, IsRoot A k R
  | 0 => ⟨0, by rw [Nat.zero_pow hk]; exact Nat.le_refl _, by rw [Nat.zero_add, Nat.one_pow]; decide⟩
  | A + 1 => by
    obtain ⟨R, h1, h2⟩ := IsRoot.exists hk A
    by_cases h : (R + 1) ^ k ≤ A + 1
    · exact ⟨R + 1, h, by have := pow_lt (show R + 1 < R + 1 + 1 by omega) hk; omega⟩
    · exact ⟨R, by omega, by omega⟩
theorem IsRoot.zero {k : Nat} (hk : 0 < k) : IsRoot 0 k 0 := ⟨by rw [Nat.zero_pow hk]; exact Nat.le_refl _, by rw [Nat.zero_add, Nat.one_pow]; decide⟩
theorem IsRoot.one (A : Nat) : IsRoot A 1 A := ⟨by rw [Nat.pow_one]; exact Nat.le_refl _, by rw [Nat.pow_one]; omega⟩
theorem IsRoot.pow {a k : Nat} (hk : 0 < k) : IsRoot (a ^ k) k a := ⟨Nat.le_refl _, pow_lt (by omega) hk⟩
theorem IsRoot.small {A k : Nat} (h0 : A ≠ 0) (h : A < 2 ^ k) : IsRoot A k 1 := ⟨by rw [Nat.one_pow]; omega, h⟩
theorem IsRoot.nest {A m n X Y : Nat} (h : IsRoot A m X) (j : IsRoot X n Y) : IsRoot A (m * n) Y := by
  refine ⟨?_, ?_⟩
  · rw [Nat.mul_comm, Nat.pow_mul]
    exact Nat.le_trans (Nat.pow_le_pow_left j.1 m) h.1
  · rw [Nat.mul_comm, Nat.pow_mul]
    exact Nat.lt_of_lt_of_le h.2 (Nat.pow_le_pow_left (show X + 1 ≤ (Y + 1) ^ n from j.2) m)
theorem IsRoot.le_self {A k R : Nat} (hk : 0 < k) (h : IsRoot A k R) : R ≤ A := by
  have h1 : R ≤ R ^ k := by
    rcases Nat.eq_zero_or_pos R with rfl | h0
    · exact Nat.zero_le _
    · exact Nat.le_trans (by rw [Nat.pow_one]; exact Nat.le_refl _) (Nat.pow_le_pow_right (n := R) h0 (show 1 ≤ k from hk))
  exact Nat.le_trans h1 h.1

/-- Bernoulli's: of two that are whole. -/
theorem bern (R x : Nat) : ∀ m, (m + 1) * R * x ^ m ≤ R ^ (m + 1) + m * x ^ (m + 1)
  | 0 => by simp
  | m + 1 => by
    have ih := Nat.mul_le_mul_right x (bern R x m)
    have hr : R ^ (m + 1) * x + R * x ^ (m + 1) ≤ R ^ (m + 1) * R + x ^ (m + 1) * x := by
      rcases Nat.le_total R x with h | h
      · have h1 := Nat.pow_le_pow_left h (m + 1)
        obtain ⟨d, rfl⟩ := Nat.exists_eq_add_of_le h
        have h2 := Nat.mul_le_mul_right d h1
        rw [Nat.mul_add, Nat.mul_add, Nat.mul_comm R]
        omega
      · have h1 := Nat.pow_le_pow_left h (m + 1)
        obtain ⟨d, rfl⟩ := Nat.exists_eq_add_of_le h
        have h2 := Nat.mul_le_mul_right d h1
        rw [Nat.mul_add, Nat.add_mul, Nat.mul_comm x, Nat.mul_comm d]
        omega
    have e1 : (m + 1 + 1) * R * x ^ (m + 1) = (m + 1) * R * x ^ m * x + R * x ^ (m + 1) := by
      rw [Nat.mul_assoc ((m + 1) * R), ← Nat.pow_succ, Nat.succ_mul (m + 1) R, Nat.add_mul]
    have e2 : R ^ (m + 1 + 1) = R ^ (m + 1) * R := Nat.pow_succ ..
    have e3 : (m + 1) * x ^ (m + 1 + 1) = m * x ^ (m + 1) * x + x ^ (m + 1) * x := by
      rw [Nat.succ_mul, Nat.mul_assoc, ← Nat.pow_succ]
    rw [Nat.add_mul (R ^ (m + 1))] at ih
    omega

/-- Newton's step from x. -/
def newton (A m x : Nat) : Nat := (x * m + A / x ^ m) / (m + 1)
theorem newton_ge {A m R x : Nat} (h : IsRoot A (m + 1) R) (hx : 0 < x) : R ≤ newton A m x := by
  unfold newton
  rw [Nat.le_div_iff_mul_le (by omega)]
  by_cases hs : R * (m + 1) ≤ x * m
  · exact Nat.le_trans hs (Nat.le_add_right _ _)
  · obtain ⟨t, ht⟩ : ∃ t, R * (m + 1) = x * m + t := ⟨R * (m + 1) - x * m, by omega⟩
    rw [ht]
    refine Nat.add_le_add_left ?_ _
    rw [Nat.le_div_iff_mul_le (Nat.pow_pos hx)]
    have hb := bern R x m
    rw [Nat.mul_comm (m + 1) R, ht, Nat.add_mul, Nat.pow_succ x m] at hb
    have e : x * m * x ^ m = m * (x ^ m * x) := by rw [Nat.mul_comm x m, Nat.mul_assoc, Nat.mul_comm x]
    have := h.1
    omega
theorem newton_lt {A m R x : Nat} (h : IsRoot A (m + 1) R) (hx : R < x) : newton A m x < x := by
  unfold newton
  have hx0 : 0 < x := by omega
  have h1 : A < x ^ m * x := by
    rw [← Nat.pow_succ]
    exact Nat.lt_of_lt_of_le h.2 (Nat.pow_le_pow_left (show R + 1 ≤ x from hx) _)
  have h2 : A / x ^ m < x := by
    rw [Nat.div_lt_iff_lt_mul (Nat.pow_pos hx0), Nat.mul_comm]; exact h1
  rw [Nat.div_lt_iff_lt_mul (by omega), Nat.mul_add, Nat.mul_one]
  omega
/-- One more square root. -/
theorem IsRoot.sq {A C X j : Nat} (h : IsRoot A (2 ^ j) C) (k : IsRoot C 2 X) : IsRoot A (2 ^ (j + 1)) X := h.nest k
theorem pow_two_succ (X j : Nat) : X ^ 2 ^ (j + 1) = (X ^ 2) ^ 2 ^ j := by rw [← Nat.pow_mul, Nat.pow_succ, Nat.mul_comm]
theorem sq_exact {A C X j : Nat} (h : IsRoot A (2 ^ j) C) (k : IsRoot C 2 X) : X ^ 2 ^ (j + 1) = A ↔ C ^ 2 ^ j = A ∧ X ^ 2 = C := by
  have hp : 0 < 2 ^ j := Nat.pow_pos (by omega)
  rw [pow_two_succ]
  constructor
  · intro e
    have h1 := Nat.pow_le_pow_left k.1 (2 ^ j)
    have h2 := h.1
    have h3 : C ^ 2 ^ j = A := by omega
    exact ⟨h3, pow_inj hp (by rw [e, h3])⟩
  · rintro ⟨h1, h2⟩
    rw [h2, h1]
theorem small_pow {C n : Nat} (h : C ≤ 1) (hn : 0 < n) : C ^ n = C := by
  rcases Nat.eq_zero_or_pos C with rfl | h0
  · exact Nat.zero_pow hn
  · obtain rfl : C = 1 := by omega
    exact Nat.one_pow n
/-- 0 and 1 are their own roots. -/
theorem IsRoot.stay {A C j K : Nat} (h : IsRoot A (2 ^ j) C) (hC : C ≤ 1) (hj : j ≤ K) : IsRoot A (2 ^ K) C ∧ C ^ 2 ^ K = C ^ 2 ^ j := by
  have p1 : 0 < 2 ^ j := Nat.pow_pos (by omega)
  have p2 : 0 < 2 ^ K := Nat.pow_pos (by omega)
  have h1 := h.1
  rw [small_pow hC p1] at h1
  refine ⟨⟨by rw [small_pow hC p2]; exact h1, Nat.lt_of_lt_of_le h.2 (Nat.pow_le_pow_right (by omega) (Nat.pow_le_pow_right (by omega) hj))⟩, ?_⟩
  rw [small_pow hC p1, small_pow hC p2]
/-- Of how many square roots it is a whole number: as far as n. -/
def IsOrder (A M n : Nat) : Prop := n ≤ M ∧ ∀ k, k ≤ M → (k ≤ n ↔ ∃ c, c ^ 2 ^ k = A)
theorem root_down {A C j k : Nat} (h : C ^ 2 ^ j = A) (hk : k ≤ j) : ∃ c, c ^ 2 ^ k = A :=
  ⟨C ^ 2 ^ (j - k), by rw [← Nat.pow_mul, ← Nat.pow_add, show j - k + k = j by omega, h]⟩
theorem IsOrder.full {A C M : Nat} (h : C ^ 2 ^ M = A) : IsOrder A M M := ⟨Nat.le_refl _, fun _ hk => ⟨fun _ => root_down h hk, fun _ => hk⟩⟩
theorem IsOrder.stop {A C X j M : Nat} (h : C ^ 2 ^ j = A) (hj : j < M) (k : IsRoot C 2 X) (hn : X ^ 2 ≠ C) : IsOrder A M j := by
  refine ⟨Nat.le_of_lt hj, fun i hi => ⟨fun hij => root_down h hij, fun ⟨c, hc⟩ => ?_⟩⟩
  rcases Nat.lt_or_ge j i with h1 | h1
  · exfalso
    obtain ⟨t, rfl⟩ : ∃ t, i = j + 1 + t := ⟨i - j - 1, by omega⟩
    have e : ((c ^ 2 ^ t) ^ 2) ^ 2 ^ j = C ^ 2 ^ j := by
      rw [h, ← hc, ← Nat.pow_mul, ← Nat.pow_mul]
      congr 1
      rw [Nat.pow_add, Nat.pow_succ, Nat.mul_comm (2 ^ j * 2), Nat.mul_comm (2 ^ j)]
    have e2 := pow_inj (Nat.pow_pos (by omega)) e
    rw [← e2] at k
    have e3 := k.uniq (IsRoot.pow (by omega))
    rw [e3, e2] at hn
    exact hn rfl
  · exact h1
theorem IsOrder.one (M : Nat) : IsOrder 1 M M := IsOrder.full (Nat.one_pow _)
/-- Where Newton's step doesn't fall, the root is found. -/
theorem newton_done {A m R x : Nat} (h : IsRoot A (m + 1) R) (hx : R ≤ x) (hs : x ≤ newton A m x) : x = R := by
  rcases Nat.lt_or_eq_of_le hx with h1 | h1
  · have := newton_lt h h1; omega
  · exact h1.symm
/-- Newton's steps begin above the root. -/
theorem newton_start {A k R c : Nat} (h : IsRoot A k R) (hc : bitN A ≤ c * k) : R < 2 ^ c := by
  refine lt_of_pow (k := k) (Nat.lt_of_le_of_lt h.1 ?_)
  rw [← Nat.pow_mul]
  exact bitN_le.1 hc
end Go.Proofs.YtflkemcoomgoiaaDoor
