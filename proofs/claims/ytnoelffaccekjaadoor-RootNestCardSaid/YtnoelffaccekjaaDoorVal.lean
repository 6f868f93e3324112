/- Numbers as lists of digits to a base, the lowest first: what they are worth, without leading noughts, and back. Conditions: the base is 2 at least. -/
namespace Go.Proofs.YtnoelffaccekjaaDoor

/-- What digits to the base B are worth. -/
def val (B : Nat) : List Nat → Nat
  | [] => 0
  | x :: l => x + B * val B l

/-- Without leading noughts. -/
def strip : List Nat → List Nat
  | [] => []
  | x :: l => if strip l = [] ∧ x = 0 then [] else x :: strip l

/-- The digits of a number, at most so many steps. -/
def digsF (B : Nat) : Nat → Nat → List Nat
  | 0, _ => []
  | f + 1, n => if n = 0 then [] else (n % B) :: digsF B f (n / B)

/-- The digits of a number. -/
def digs (B n : Nat) : List Nat := digsF B n n

/-- All digits are digits. -/
def Dig (B : Nat) (l : List Nat) : Prop := ∀ x ∈ l, x < B

theorem Dig.nil (B : Nat) : Dig B [] := by simp [Dig]
theorem Dig.cons {B x : Nat} {l : List Nat} (hx : x < B) (h : Dig B l) : Dig B (x :: l) := by
  intro y hy
  rcases List.mem_cons.1 hy with rfl | hy
  · exact hx
  · exact h y hy
theorem Dig.head {B x : Nat} {l : List Nat} (h : Dig B (x :: l)) : x < B := h x (by simp)
theorem Dig.tail {B x : Nat} {l : List Nat} (h : Dig B (x :: l)) : Dig B l := fun y hy => h y (by simp [hy])
theorem Dig.append {B : Nat} {l m : List Nat} (h : Dig B l) (k : Dig B m) : Dig B (l ++ m) := by
  intro y hy
  rcases List.mem_append.1 hy with hy | hy
  · exact h y hy
  · exact k y hy
theorem Dig.take {B : Nat} {l : List Nat} (h : Dig B l) (k : Nat) : Dig B (l.take k) := fun y hy => h y (List.mem_of_mem_take hy)
theorem Dig.drop {B : Nat} {l : List Nat} (h : Dig B l) (k : Nat) : Dig B (l.drop k) := fun y hy => h y (List.mem_of_mem_drop hy)
theorem Dig.getD {B : Nat} {l : List Nat} (h : Dig B l) (hB : 0 < B) (k : Nat) : l.getD k 0 < B := by
  rw [List.getD_eq_getElem?_getD]
  by_cases hk : k < l.length
  · simp only [List.getElem?_eq_getElem hk, Option.getD_some]; exact h _ (List.getElem_mem hk)
  · simp [List.getElem?_eq_none (Nat.le_of_not_lt hk), hB]
theorem Dig.replicate {B : Nat} (hB : 0 < B) (n : Nat) : Dig B (List.replicate n 0) := by
  intro y hy
  rw [(List.mem_replicate.1 hy).2]; exact hB
theorem Dig.set {B : Nat} {l : List Nat} (h : Dig B l) (k : Nat) {x : Nat} (hx : x < B) : Dig B (l.set k x) := by
  intro y hy
  rcases List.mem_or_eq_of_mem_set hy with hy | rfl
  · exact h y hy
  · exact hx

@[simp] theorem val_nil (B : Nat) : val B [] = 0 := rfl
@[simp] theorem val_cons (B x : Nat) (l : List Nat) : val B (x :: l) = x + B * val B l := rfl
theorem val_one (B x : Nat) : val B [x] = x := by simp

theorem val_append (B : Nat) (l m : List Nat) : val B (l ++ m) = val B l + B ^ l.length * val B m := by
  induction l with
  | nil => simp
  | cons x l ih => simp only [List.cons_append, val_cons, ih, List.length_cons, Nat.pow_succ, Nat.mul_add, Nat.add_assoc]; rw [← Nat.mul_assoc, Nat.mul_comm B (B ^ l.length)]

theorem val_lt {B : Nat} {l : List Nat} (h : Dig B l) : val B l < B ^ l.length := by
  induction l with
  | nil => simp
  | cons x l ih =>
    have hx := h.head
    have := ih h.tail
    simp only [val_cons, List.length_cons, Nat.pow_succ]
    have h1 : B * (val B l + 1) ≤ B * B ^ l.length := Nat.mul_le_mul_left _ this
    rw [Nat.mul_add, Nat.mul_one, Nat.mul_comm B (B ^ l.length)] at h1
    omega

theorem val_replicate (B n : Nat) : val B (List.replicate n 0) = 0 := by
  induction n with
  | zero => rfl
  | succ n ih => simp [List.replicate_succ, ih]

theorem val_take_drop (B : Nat) (l : List Nat) (k : Nat) (hk : k ≤ l.length) : val B l = val B (l.take k) + B ^ k * val B (l.drop k) := by
  have := val_append B (l.take k) (l.drop k)
  rw [List.take_append_drop, List.length_take, Nat.min_eq_left hk] at this
  exact this

theorem val_take_succ (B : Nat) (l : List Nat) (k : Nat) : val B (l.take (k + 1)) = val B (l.take k) + B ^ k * l.getD k 0 := by
  induction l generalizing k with
  | nil => simp
  | cons x l ih =>
    cases k with
    | zero => simp
    | succ k =>
      simp only [List.take_succ_cons, val_cons, ih k, List.getD_cons_succ, Nat.pow_succ, Nat.mul_add, Nat.add_assoc]
      rw [← Nat.mul_assoc, Nat.mul_comm B (B ^ k)]

theorem val_take_ge (B : Nat) (l : List Nat) (k : Nat) (hk : l.length ≤ k) : val B (l.take k) = val B l := by rw [List.take_of_length_le hk]

theorem val_set_take (B : Nat) (l : List Nat) (k x : Nat) (hk : k < l.length) : val B ((l.set k x).take (k + 1)) = val B (l.take k) + B ^ k * x := by
  rw [val_take_succ, List.take_set_of_le (Nat.le_refl k)]
  simp [hk]

theorem strip_nil_iff (B : Nat) (l : List Nat) (hB : 0 < B) : strip l = [] ↔ val B l = 0 := by
  induction l with
  | nil => simp [strip]
  | cons x l ih =>
    simp only [strip, val_cons]
    by_cases h : strip l = [] ∧ x = 0
    · rw [if_pos h]; have := ih.1 h.1; simp [this, h.2]
    · rw [if_neg h]
      constructor
      · intro h'; cases h'
      · intro h'
        exfalso; apply h
        have h1 : B * val B l = 0 := by omega
        have h2 : val B l = 0 := by
          rcases Nat.mul_eq_zero.1 h1 with h | h
          · omega
          · exact h
        exact ⟨ih.2 h2, by omega⟩

theorem digsF_more (B : Nat) (hB : 2 ≤ B) : ∀ (f n : Nat), n ≤ f → digsF B f n = digsF B n n := by
  intro f
  induction f using Nat.strongRecOn with
  | ind f ih =>
    intro n hn
    by_cases h0 : n = 0
    · subst h0; cases f <;> simp [digsF]
    · obtain ⟨f', rfl⟩ : ∃ f', f = f' + 1 := ⟨f - 1, by omega⟩
      obtain ⟨n', rfl⟩ : ∃ n', n = n' + 1 := ⟨n - 1, by omega⟩
      have hd : (n' + 1) / B ≤ n' := by
        have : (n' + 1) / B < n' + 1 := Nat.div_lt_self (by omega) (by omega)
        omega
      simp only [digsF, if_neg h0]
      rw [ih f' (by omega) _ (by omega)]
      by_cases he : n' = f'
      · subst he; rw [ih n' (by omega) _ hd]
      · rw [ih n' (by omega) _ hd]

theorem digs_zero (B : Nat) : digs B 0 = [] := rfl
theorem digs_pos {B : Nat} (hB : 2 ≤ B) {n : Nat} (hn : 0 < n) : digs B n = (n % B) :: digs B (n / B) := by
  obtain ⟨n', rfl⟩ : ∃ n', n = n' + 1 := ⟨n - 1, by omega⟩
  have hd : (n' + 1) / B ≤ n' := by
    have : (n' + 1) / B < n' + 1 := Nat.div_lt_self (by omega) (by omega)
    omega
  unfold digs
  simp only [digsF, if_neg (by omega : ¬ n' + 1 = 0)]
  rw [digsF_more B hB n' _ hd]

theorem digs_cons {B : Nat} (hB : 2 ≤ B) {x m : Nat} (hx : x < B) (h : x + B * m ≠ 0) : digs B (x + B * m) = x :: digs B m := by
  rw [digs_pos hB (by omega)]
  have h1 : (x + B * m) % B = x := by rw [Nat.add_mul_mod_self_left]; exact Nat.mod_eq_of_lt hx
  have h2 : (x + B * m) / B = m := by rw [Nat.add_mul_div_left _ _ (by omega), Nat.div_eq_of_lt hx]; omega
  rw [h1, h2]

theorem strip_eq {B : Nat} (hB : 2 ≤ B) {l : List Nat} (h : Dig B l) : strip l = digs B (val B l) := by
  induction l with
  | nil => rfl
  | cons x l ih =>
    have hn := strip_nil_iff B l (by omega)
    simp only [strip, val_cons]
    by_cases hc : strip l = [] ∧ x = 0
    · rw [if_pos hc, hn.1 hc.1, hc.2]; rfl
    · rw [if_neg hc, ih h.tail, digs_cons hB h.head]
      intro h0
      apply hc
      have h1 : B * val B l = 0 := by omega
      have h2 : val B l = 0 := by
        rcases Nat.mul_eq_zero.1 h1 with h | h
        · omega
        · exact h
      exact ⟨hn.2 h2, by omega⟩

theorem digs_ind {B : Nat} (hB : 2 ≤ B) {p : Nat → Prop} (h0 : p 0) (hs : ∀ n, 0 < n → p (n / B) → p n) : ∀ n, p n := by
  intro n
  induction n using Nat.strongRecOn with
  | ind n ih =>
    by_cases h : n = 0
    · rw [h]; exact h0
    · exact hs n (by omega) (ih _ (Nat.div_lt_self (by omega) (by omega)))

theorem val_digs {B : Nat} (hB : 2 ≤ B) (n : Nat) : val B (digs B n) = n := by
  refine digs_ind hB (p := fun n => val B (digs B n) = n) rfl (fun n hn ih => ?_) n
  rw [digs_pos hB hn, val_cons, ih]
  have := Nat.mod_add_div n B
  omega

theorem dig_digs {B : Nat} (hB : 2 ≤ B) (n : Nat) : Dig B (digs B n) := by
  refine digs_ind hB (p := fun n => Dig B (digs B n)) (Dig.nil B) (fun n hn ih => ?_) n
  rw [digs_pos hB hn]
  exact Dig.cons (Nat.mod_lt _ (by omega)) ih

theorem digs_inj {B : Nat} (hB : 2 ≤ B) {m n : Nat} (h : digs B m = digs B n) : m = n := by
  rw [← val_digs hB m, h, val_digs hB n]

theorem strip_digs {B : Nat} (hB : 2 ≤ B) (n : Nat) : strip (digs B n) = digs B n := by
  rw [strip_eq hB (dig_digs hB n), val_digs hB]

theorem digs_nil_iff {B : Nat} (hB : 2 ≤ B) (n : Nat) : digs B n = [] ↔ n = 0 := by
  constructor
  · intro h; rw [← val_digs hB n, h]; rfl
  · rintro rfl; rfl

theorem digs_length_le {B : Nat} (hB : 2 ≤ B) (n k : Nat) : (digs B n).length ≤ k ↔ n < B ^ k := by
  induction k generalizing n with
  | zero =>
    simp only [Nat.le_zero, List.length_eq_zero_iff, digs_nil_iff hB, Nat.pow_zero]; omega
  | succ k ih =>
    by_cases h0 : n = 0
    · subst h0; simp [digs_zero]; exact Nat.pow_pos (by omega)
    · rw [digs_pos hB (by omega), List.length_cons, Nat.add_le_add_iff_right, ih, Nat.div_lt_iff_lt_mul (by omega), Nat.pow_succ]

theorem strip_length_le (l : List Nat) : (strip l).length ≤ l.length := by
  induction l with
  | nil => simp [strip]
  | cons x l ih =>
    simp only [strip]
    split
    · simp
    · simp only [List.length_cons]; omega

/-- What stands above the place where all is nought plays no part. -/
theorem strip_take (l : List Nat) (k : Nat) (h : ∀ j, k ≤ j → l.getD j 0 = 0) : strip (l.take k) = strip l := by
  induction l generalizing k with
  | nil => simp
  | cons x l ih =>
    cases k with
    | zero =>
      have hx : x = 0 := by simpa using h 0 (Nat.le_refl _)
      have : strip l = [] := by
        have := ih 0 (fun j _ => by simpa using h (j + 1) (by omega))
        simpa [strip] using this.symm
      simp [strip, this, hx]
    | succ k =>
      have := ih k (fun j hj => by simpa using h (j + 1) (by omega))
      simp only [List.take_succ_cons, strip, this]

/-- A list whose last digit isn't nought is bare. -/
theorem strip_self (l : List Nat) (h : l = [] ∨ l.getD (l.length - 1) 0 ≠ 0) : strip l = l := by
  induction l with
  | nil => rfl
  | cons x l ih =>
    rcases h with h | h
    · cases h
    · cases l with
      | nil => simp [strip] at h ⊢; exact h
      | cons y l =>
        have := ih (.inr (by simpa using h))
        rw [strip, this]
        simp
end Go.Proofs.YtnoelffaccekjaaDoor
