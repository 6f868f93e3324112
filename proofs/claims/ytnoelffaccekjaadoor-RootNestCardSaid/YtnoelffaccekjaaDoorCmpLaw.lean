/- The plain law of nat.Cmp: numbers are compared by their lengths, then by their digits from the top. Conditions: digits are digits. -/
import Derived.Test.YtnoelffaccekjaaDoorBit
namespace Go.Proofs.YtnoelffaccekjaaDoor

/-- -1, 0, 1. -/
def cmpN (a b : Nat) : Int := if a < b then -1 else if a = b then 0 else 1
theorem cmpN_lt {a b : Nat} (h : a < b) : cmpN a b = -1 := by unfold cmpN; rw [if_pos h]
theorem cmpN_gt {a b : Nat} (h : b < a) : cmpN a b = 1 := by unfold cmpN; rw [if_neg (by omega), if_neg (by omega)]
theorem cmpN_eq (a : Nat) : cmpN a a = 0 := by unfold cmpN; rw [if_neg (by omega), if_pos rfl]
theorem cmpN_zero {a b : Nat} : cmpN a b = 0 ↔ a = b := by
  rcases Nat.lt_trichotomy a b with h | h | h
  · rw [cmpN_lt h]; omega
  · subst h; rw [cmpN_eq]; simp
  · rw [cmpN_gt h]; omega

/-- Which places have come when k rounds from the top are over. -/
def came (n k : Nat) : List Nat := (List.range k).map fun j => n - 1 - j
theorem came_succ (n k : Nat) : came n (k + 1) = came n k ++ [n - 1 - k] := by simp [came, List.range_succ]
theorem came_len (n k : Nat) : (came n k).length = k := by simp [came]
theorem came_mem {n k j : Nat} (h : j < n) (hk : n ≤ j + k) : j ∈ came n k := by
  simp only [came, List.mem_map, List.mem_range]
  exact ⟨n - 1 - j, by omega, by omega⟩

theorem lt_of_top {B : Nat} {s t : List Nat} {j : Nat} (hs : Dig B s) (hl : s.length = t.length) (hj : j < s.length) (hab : ∀ i, j < i → s.getD i 0 = t.getD i 0) (h : s.getD j 0 < t.getD j 0) : val B s < val B t := by
  have e : s.drop (j + 1) = t.drop (j + 1) := by
    apply List.ext_getElem?
    intro i
    rw [List.getElem?_drop, List.getElem?_drop]
    have := hab (j + 1 + i) (by omega)
    rw [List.getD_eq_getElem?_getD, List.getD_eq_getElem?_getD] at this
    by_cases hi : j + 1 + i < s.length
    · rw [List.getElem?_eq_getElem hi, List.getElem?_eq_getElem (by omega)] at this ⊢
      simpa using this
    · rw [List.getElem?_eq_none (by omega), List.getElem?_eq_none (by omega)]
  have e1 := val_take_drop B s (j + 1) (by omega)
  have e2 := val_take_drop B t (j + 1) (by omega)
  rw [val_take_succ] at e1 e2
  have h1 := val_lt (hs.take j)
  rw [List.length_take, Nat.min_eq_left (by omega)] at h1
  have h2 := Nat.mul_le_mul_left (B ^ j) (show s.getD j 0 + 1 ≤ t.getD j 0 from h)
  rw [Nat.mul_add] at h2
  rw [e1, e2, e]
  omega

theorem cmp_top {B : Nat} {s t : List Nat} {j : Nat} (hs : Dig B s) (ht : Dig B t) (hl : s.length = t.length) (hj : j < s.length) (hab : ∀ i, j < i → s.getD i 0 = t.getD i 0) (h : s.getD j 0 ≠ t.getD j 0) : cmpN (s.getD j 0) (t.getD j 0) = cmpN (val B s) (val B t) := by
  rcases Nat.lt_or_gt_of_ne h with h | h
  · rw [cmpN_lt h, cmpN_lt (lt_of_top hs hl hj hab h)]
  · rw [cmpN_gt h, cmpN_gt (lt_of_top ht hl.symm (by omega) (fun i hi => (hab i hi).symm) h)]

theorem cmp_same {B : Nat} {s t : List Nat} (hl : s.length = t.length) (hab : ∀ i, i < s.length → s.getD i 0 = t.getD i 0) : cmpN (val B s) (val B t) = 0 := by
  have : s = t := List.ext_getElem hl fun i h1 h2 => by
    have := hab i h1
    simpa [List.getD_eq_getElem?_getD, List.getElem?_eq_getElem h1, List.getElem?_eq_getElem h2] using this
  rw [this, cmpN_eq]

theorem cmp_len {B : Nat} (hB : 2 ≤ B) {a b : Nat} (h : (digs B a).length ≠ (digs B b).length) : cmpN (digs B a).length (digs B b).length = cmpN a b := by
  have key : ∀ {a b : Nat}, (digs B a).length < (digs B b).length → a < b := fun {a b} h => by
    have h1 := (digs_length_le hB a (digs B a).length).1 (Nat.le_refl _)
    have h2 : ¬ (digs B b).length ≤ (digs B a).length := by omega
    rw [digs_length_le hB] at h2; omega
  rcases Nat.lt_or_gt_of_ne h with h | h
  · rw [cmpN_lt h, cmpN_lt (key h)]
  · rw [cmpN_gt h, cmpN_gt (key h)]
end Go.Proofs.YtnoelffaccekjaaDoor
