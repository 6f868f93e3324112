/- atanh of a fraction, plainly: the sum of its series, what the program's loop and the document's tell of it. Conditions: none. -/
import Derived.Test.YtecgimdgmilcbaaDoorRatLaw
namespace Go.Proofs.YtecgimdgmilcbaaDoor
set_option maxRecDepth 100000
set_option linter.unusedVariables false

/-- The first K terms of atanh's series. -/
def atA (x : Rat) : Nat → Rat
  | 0 => 0
  | K + 1 => atA x K + x ^ (2 * K + 1) * ((2 * K + 1 : Nat) : Rat)⁻¹
/-- j terms from the m-th on, without their common power. -/
def atG (x : Rat) : Nat → Nat → Rat
  | _, 0 => 0
  | m, j + 1 => ((2 * m + 1 : Nat) : Rat)⁻¹ + x * x * atG x (m + 1) j

theorem atA_succ (x : Rat) (K : Nat) : atA x (K + 1) = atA x K + x ^ (2 * K + 1) * ((2 * K + 1 : Nat) : Rat)⁻¹ := rfl
theorem atG_zero (x : Rat) (m : Nat) : atG x m 0 = 0 := by unfold atG; rfl
theorem atG_succ (x : Rat) (m j : Nat) : atG x m (j + 1) = ((2 * m + 1 : Nat) : Rat)⁻¹ + x * x * atG x (m + 1) j := by rw [atG]

section
variable {x : Rat}
theorem inv_le_one (m : Nat) : ((2 * m + 1 : Nat) : Rat)⁻¹ ≤ 1 := by
  have h := rq_inv (2 * m + 1) (by omega)
  have hp := rq_nat_pos (n := 2 * m + 1) (by omega)
  refine rq_cancel hp ?_
  have := rq_le (show 1 ≤ 2 * m + 1 by omega)
  rw [h]; grind
theorem atG_nonneg (h0 : 0 ≤ x) : ∀ (j m : Nat), 0 ≤ atG x m j
  | 0, _ => by rw [atG_zero]; exact Rat.le_refl
  | j + 1, m => by
    have h1 := rq_inv_nonneg (2 * m + 1)
    have h2 := Rat.mul_nonneg (Rat.mul_nonneg h0 h0) (atG_nonneg h0 j (m + 1))
    rw [atG_succ]
    grind
theorem sq_third (h0 : 0 ≤ x) (h1 : 3 * x ≤ 1) : 9 * (x * x) ≤ 1 := by
  have := rq_mul_le (a := 3 * x) (b := 1) (c := 3 * x) (d := 1) (by grind) h1 (by grind) h1
  grind
theorem atG_le (h0 : 0 ≤ x) (h1 : 3 * x ≤ 1) : ∀ (j m : Nat), 8 * atG x m j ≤ 9
  | 0, _ => by rw [atG_zero]; grind
  | j + 1, m => by
    have h3 := inv_le_one m
    have h4 := rq_mul_le (a := 9 * (x * x)) (b := 1) (c := 8 * atG x (m + 1) j) (d := 9) (by have := Rat.mul_nonneg h0 h0; grind) (sq_third h0 h1) (by have := atG_nonneg h0 j (m + 1); grind) (atG_le h0 h1 j (m + 1))
    rw [atG_succ]
    grind
theorem atA_add : ∀ (j m : Nat), atA x (m + j) = atA x m + x ^ (2 * m + 1) * atG x m j
  | 0, m => by rw [atG_zero]; simp only [Nat.add_zero]; grind
  | j + 1, m => by
    have h := atA_add j (m + 1)
    rw [show m + (j + 1) = m + 1 + j by omega, h]
    rw [atG_succ, atA_succ]
    rw [show 2 * (m + 1) + 1 = 2 * m + 1 + 1 + 1 by omega, Rat.pow_succ x (2 * m + 1 + 1), Rat.pow_succ x (2 * m + 1)]
    grind
theorem atA_mono (h0 : 0 ≤ x) {m n : Nat} (h : m ≤ n) : atA x m ≤ atA x n := by
  obtain ⟨j, rfl⟩ := Nat.le.dest h
  have := Rat.mul_nonneg (rq_pow_nonneg h0 (2 * m + 1)) (atG_nonneg h0 j m)
  rw [atA_add]; grind
theorem atA_tail (h0 : 0 ≤ x) (h1 : 3 * x ≤ 1) (m n : Nat) : atA x n ≤ atA x m + 2 * x ^ (2 * m + 1) := by
  have hp := rq_pow_nonneg h0 (2 * m + 1)
  rcases Nat.le_total n m with h | h
  · have := atA_mono h0 h; grind
  · obtain ⟨j, rfl⟩ := Nat.le.dest h
    have h2 := Rat.mul_le_mul_of_nonneg_left (atG_le h0 h1 j m) hp
    rw [atA_add]; grind
end

/-! ### the program's loop -/
/-- A number between two, at a scale. -/
structure Pr where
  lo : Nat
  hi : Nat
def Pr.times (p q : Pr) (S : Nat) : Pr := ⟨p.lo * q.lo / S, cdiv (p.hi * q.hi) S⟩
def Pr.by (p : Pr) (n : Nat) : Pr := ⟨p.lo / n, cdiv p.hi n⟩
def Pr.plus (p q : Pr) : Pr := ⟨p.lo + q.lo, p.hi + q.hi⟩
def Pr.rest (p t : Pr) : Pr := ⟨p.lo, p.hi + (t.hi + t.hi)⟩
def fracP (n d S : Nat) : Pr := ⟨n * S / d, cdiv (n * S) d⟩
def atT (t q : Pr) (S : Nat) : Nat → Pr
  | 0 => t
  | k + 1 => (atT t q S k).times q S
def atS (t q : Pr) (S : Nat) : Nat → Pr
  | 0 => ⟨0, 0⟩
  | k + 1 => (atS t q S k).plus ((atT t q S k).by (2 * k + 1))
theorem atT_succ (t q : Pr) (S k : Nat) : atT t q S (k + 1) = (atT t q S k).times q S := rfl
theorem atS_succ (t q : Pr) (S k : Nat) : atS t q S (k + 1) = (atS t q S k).plus ((atT t q S k).by (2 * k + 1)) := rfl
/-- The sum of N terms, and what is behind the last one. -/
def atR (n d S N : Nat) : Pr :=
  let t := fracP n d S
  (atS t (t.times t S) S N).rest (atT t (t.times t S) S N)

section
variable {n d S : Nat} {x : Rat}
theorem frac_lo (hd : 0 < d) (hx : x * (d : Rat) = (n : Rat)) : ((fracP n d S).lo : Rat) ≤ S * x := by
  refine rq_cancel (rq_nat_pos hd) (Rat.le_trans (rq_div_le _ _) ?_)
  rw [Rat.natCast_mul, ← hx]; grind
theorem frac_hi (hd : 0 < d) (hx : x * (d : Rat) = (n : Rat)) : S * x ≤ ((fracP n d S).hi : Rat) := by
  refine rq_cancel (rq_nat_pos hd) (Rat.le_trans ?_ (rq_cdiv_ge _ hd))
  rw [Rat.natCast_mul, ← hx]; grind
theorem times_lo {p q : Pr} {a b : Rat} (hS : 0 < S) (ha : (p.lo : Rat) ≤ S * a) (hb : (q.lo : Rat) ≤ S * b) : ((p.times q S).lo : Rat) ≤ S * (a * b) := by
  refine rq_cancel (rq_nat_pos hS) (Rat.le_trans (rq_div_le _ _) ?_)
  rw [Rat.natCast_mul]
  have := rq_mul_le (rq_nat_nonneg p.lo) ha (rq_nat_nonneg q.lo) hb
  grind
theorem times_hi {p q : Pr} {a b : Rat} (hS : 0 < S) (a0 : 0 ≤ a) (b0 : 0 ≤ b) (ha : S * a ≤ (p.hi : Rat)) (hb : S * b ≤ (q.hi : Rat)) : S * (a * b) ≤ ((p.times q S).hi : Rat) := by
  refine rq_cancel (rq_nat_pos hS) (Rat.le_trans ?_ (rq_cdiv_ge _ hS))
  rw [Rat.natCast_mul]
  have s0 := rq_nat_nonneg S
  have := rq_mul_le (Rat.mul_nonneg s0 a0) ha (Rat.mul_nonneg s0 b0) hb
  grind
theorem by_lo {p : Pr} {a : Rat} {m : Nat} (hm : 0 < m) (ha : (p.lo : Rat) ≤ S * a) : ((p.by m).lo : Rat) ≤ S * (a * ((m : Nat) : Rat)⁻¹) := by
  have hi := rq_inv m hm
  refine rq_cancel (rq_nat_pos hm) (Rat.le_trans (rq_div_le _ _) ?_)
  rw [show (S : Rat) * (a * ((m : Nat) : Rat)⁻¹) * m = S * a * (((m : Nat) : Rat)⁻¹ * m) by grind, hi, Rat.mul_one]
  exact ha
theorem by_hi {p : Pr} {a : Rat} {m : Nat} (hm : 0 < m) (ha : S * a ≤ (p.hi : Rat)) : S * (a * ((m : Nat) : Rat)⁻¹) ≤ ((p.by m).hi : Rat) := by
  have hi := rq_inv m hm
  refine rq_cancel (rq_nat_pos hm) (Rat.le_trans ?_ (rq_cdiv_ge _ hm))
  rw [show (S : Rat) * (a * ((m : Nat) : Rat)⁻¹) * m = S * a * (((m : Nat) : Rat)⁻¹ * m) by grind, hi, Rat.mul_one]
  exact ha
theorem atT_lo {t q : Pr} (hS : 0 < S) (ht : (t.lo : Rat) ≤ S * x) (hq : (q.lo : Rat) ≤ S * (x * x)) : ∀ k, ((atT t q S k).lo : Rat) ≤ S * x ^ (2 * k + 1)
  | 0 => by simpa [atT] using ht
  | k + 1 => by
    have h := times_lo hS (atT_lo hS ht hq k) hq
    rw [show 2 * (k + 1) + 1 = 2 * k + 1 + 1 + 1 by omega, Rat.pow_succ x (2 * k + 1 + 1), Rat.pow_succ x (2 * k + 1)]
    rw [atT_succ]
    grind
theorem atT_hi {t q : Pr} (hS : 0 < S) (h0 : 0 ≤ x) (ht : S * x ≤ (t.hi : Rat)) (hq : S * (x * x) ≤ (q.hi : Rat)) : ∀ k, S * x ^ (2 * k + 1) ≤ ((atT t q S k).hi : Rat)
  | 0 => by simpa [atT] using ht
  | k + 1 => by
    have h := times_hi hS (rq_pow_nonneg h0 (2 * k + 1)) (Rat.mul_nonneg h0 h0) (atT_hi hS h0 ht hq k) hq
    rw [show 2 * (k + 1) + 1 = 2 * k + 1 + 1 + 1 by omega, Rat.pow_succ x (2 * k + 1 + 1), Rat.pow_succ x (2 * k + 1)]
    rw [atT_succ]
    grind
theorem atS_lo {t q : Pr} (hS : 0 < S) (ht : (t.lo : Rat) ≤ S * x) (hq : (q.lo : Rat) ≤ S * (x * x)) : ∀ k, ((atS t q S k).lo : Rat) ≤ S * atA x k
  | 0 => by simp [atS, atA]
  | k + 1 => by
    have h := atS_lo hS ht hq k
    have h2 := by_lo (S := S) (m := 2 * k + 1) (by omega) (atT_lo hS ht hq k)
    rw [atS_succ, atA_succ]
    simp only [Pr.plus, Rat.natCast_add]
    grind
theorem atS_hi {t q : Pr} (hS : 0 < S) (h0 : 0 ≤ x) (ht : S * x ≤ (t.hi : Rat)) (hq : S * (x * x) ≤ (q.hi : Rat)) : ∀ k, S * atA x k ≤ ((atS t q S k).hi : Rat)
  | 0 => by simp [atS, atA]
  | k + 1 => by
    have h := atS_hi hS h0 ht hq k
    have h2 := by_hi (S := S) (m := 2 * k + 1) (by omega) (atT_hi hS h0 ht hq k)
    rw [atS_succ, atA_succ]
    simp only [Pr.plus, Rat.natCast_add]
    grind
/-- Between what atanh lies: what is told is right. -/
theorem atR_lo (hS : 0 < S) (hd : 0 < d) (hx : x * (d : Rat) = (n : Rat)) (N : Nat) : ((atR n d S N).lo : Rat) ≤ S * atA x N :=
  atS_lo hS (frac_lo hd hx) (times_lo hS (frac_lo hd hx) (frac_lo hd hx)) N
theorem atR_hi (hS : 0 < S) (hd : 0 < d) (hx : x * (d : Rat) = (n : Rat)) (h0 : 0 ≤ x) (h1 : 3 * x ≤ 1) (N K : Nat) : S * atA x K ≤ ((atR n d S N).hi : Rat) := by
  have ht := frac_hi (S := S) hd hx
  have hq := times_hi hS h0 h0 ht ht
  have a := atS_hi hS h0 ht hq N
  have b := atT_hi hS h0 ht hq N
  have c := Rat.mul_le_mul_of_nonneg_left (atA_tail h0 h1 N K) (rq_nat_nonneg S)
  unfold atR Pr.rest
  simp only [Rat.natCast_add]
  grind

/-! ### how wide -/
theorem sq_thin {t : Pr} (hS : 8 ≤ S) (h3 : 3 * t.lo ≤ S) (hw : t.hi ≤ t.lo + 1) : (t.times t S).hi ≤ (t.times t S).lo + 2 := by
  have hp : 0 < S := by omega
  have a := cdiv_lt (t.hi * t.hi) hp
  have b := lt_div' (t.lo * t.lo) hp
  unfold Pr.times
  simp only
  have c : t.hi * t.hi ≤ (t.lo + 1) * (t.lo + 1) := Nat.mul_le_mul hw hw
  have e : (t.lo + 1) * (t.lo + 1) = t.lo * t.lo + 2 * t.lo + 1 := by grind
  have f : cdiv (t.hi * t.hi) S * S < (t.lo * t.lo / S + 3) * S := by rw [Nat.add_mul]; omega
  have := Nat.lt_of_mul_lt_mul_right f
  omega
theorem sq_small {t : Pr} (hS : 0 < S) (h3 : 3 * t.lo ≤ S) : 9 * (t.times t S).lo ≤ S := by
  have a := div_le' (t.lo * t.lo) S
  unfold Pr.times
  simp only
  have b : (3 * t.lo) * (3 * t.lo) ≤ S * S := Nat.mul_le_mul h3 h3
  refine Nat.le_of_mul_le_mul_right (c := S) ?_ hS
  grind
theorem atT_small {t q : Pr} (hS : 0 < S) (h3 : 3 * t.lo ≤ S) (h9 : 9 * q.lo ≤ S) : ∀ k, 3 * 9 ^ k * (atT t q S k).lo ≤ S
  | 0 => by simpa [atT] using h3
  | k + 1 => by
    have ih := atT_small hS h3 h9 k
    have a := div_le' ((atT t q S k).lo * q.lo) S
    refine Nat.le_of_mul_le_mul_right (c := S) ?_ hS
    rw [atT_succ]
    simp only [Pr.times]
    have b := Nat.mul_le_mul ih h9
    have c := Nat.mul_le_mul_left (3 * 9 ^ (k + 1)) a
    rw [Nat.pow_succ] at c ⊢
    grind
theorem atT_thin {t q : Pr} (hS : 8 ≤ S) (h3 : 3 * t.lo ≤ S) (h9 : 9 * q.lo ≤ S) (ht : t.hi ≤ t.lo + 1) (hq : q.hi ≤ q.lo + 2) : ∀ k, (atT t q S k).hi ≤ (atT t q S k).lo + 3
  | 0 => by simp only [atT]; omega
  | k + 1 => by
    have hp : 0 < S := by omega
    have ih := atT_thin hS h3 h9 ht hq k
    have h5 : 3 * (atT t q S k).lo ≤ S := by
      have := atT_small hp h3 h9 k
      refine Nat.le_trans (Nat.mul_le_mul_right _ ?_) this
      have := Nat.one_le_pow k 9 (by omega)
      omega
    rw [atT_succ]
    generalize atT t q S k = u at *
    have a := cdiv_lt (u.hi * q.hi) hp
    have b := lt_div' (u.lo * q.lo) hp
    unfold Pr.times
    simp only
    have c : u.hi * q.hi ≤ (u.lo + 3) * (q.lo + 2) := Nat.mul_le_mul ih hq
    have e : (u.lo + 3) * (q.lo + 2) = u.lo * q.lo + 2 * u.lo + 3 * q.lo + 6 := by grind
    have f : cdiv (u.hi * q.hi) S * S < (u.lo * q.lo / S + 4) * S := by rw [Nat.add_mul]; omega
    have := Nat.lt_of_mul_lt_mul_right f
    omega
theorem by_thin {p : Pr} {m : Nat} (hm : 3 ≤ m) (h : p.hi ≤ p.lo + 3) : (p.by m).hi ≤ (p.by m).lo + 2 := by
  have hp : 0 < m := by omega
  have a := cdiv_lt p.hi hp
  have b := lt_div' p.lo hp
  unfold Pr.by
  simp only
  have f : cdiv p.hi m * m < (p.lo / m + 3) * m := by rw [Nat.add_mul]; omega
  have := Nat.lt_of_mul_lt_mul_right f
  omega
theorem times_le {p q : Pr} (hp : p.lo ≤ p.hi) (hq : q.lo ≤ q.hi) : (p.times q S).lo ≤ (p.times q S).hi :=
  Nat.le_trans (Nat.div_le_div_right (Nat.mul_le_mul hp hq)) (div_le_cdiv _ _)
theorem by_le {p : Pr} {m : Nat} (hp : p.lo ≤ p.hi) : (p.by m).lo ≤ (p.by m).hi := Nat.le_trans (Nat.div_le_div_right hp) (div_le_cdiv _ _)
theorem atT_le {t q : Pr} (ht : t.lo ≤ t.hi) (hq : q.lo ≤ q.hi) : ∀ k, (atT t q S k).lo ≤ (atT t q S k).hi
  | 0 => ht
  | k + 1 => times_le (atT_le ht hq k) hq
theorem atS_le {t q : Pr} (ht : t.lo ≤ t.hi) (hq : q.lo ≤ q.hi) : ∀ k, (atS t q S k).lo ≤ (atS t q S k).hi
  | 0 => Nat.le_refl _
  | k + 1 => Nat.add_le_add (atS_le ht hq k) (by_le (atT_le ht hq k))
theorem atS_thin {t q : Pr} (hS : 8 ≤ S) (h3 : 3 * t.lo ≤ S) (h9 : 9 * q.lo ≤ S) (ht : t.hi ≤ t.lo + 1) (hq : q.hi ≤ q.lo + 2) : ∀ k, (atS t q S k).hi ≤ (atS t q S k).lo + 2 * k
  | 0 => by simp [atS]
  | 1 => by
    simp only [atS, atT, Pr.plus, Pr.by, Nat.mul_zero, Nat.zero_add, Nat.div_one]
    have := cdiv_le_of (a := t.hi) (b := 1) (c := t.hi) (by omega) (by omega)
    omega
  | k + 2 => by
    have ih := atS_thin hS h3 h9 ht hq (k + 1)
    have := by_thin (m := 2 * (k + 1) + 1) (by omega) (atT_thin hS h3 h9 ht hq (k + 1))
    rw [atS_succ]
    simp only [Pr.plus]
    omega
theorem frac_thin (hd : 0 < d) : (fracP n d S).hi ≤ (fracP n d S).lo + 1 := by
  unfold fracP cdiv; simp only; split <;> omega
theorem frac_le : (fracP n d S).lo ≤ (fracP n d S).hi := div_le_cdiv _ _
theorem frac_third (hd : 0 < d) (h : 3 * n ≤ d) : 3 * (fracP n d S).lo ≤ S := by
  have a := div_le' (n * S) d
  unfold fracP
  simp only
  refine Nat.le_of_mul_le_mul_right (c := d) ?_ hd
  have := Nat.mul_le_mul_right S h
  grind
/-- The loop's rounds: while a term is above nought. -/
theorem atT_rounds {s k : Nat} (hd : 0 < d) (h : 3 * n ≤ d) (hk : (atT (fracP n d (2 ^ s)) ((fracP n d (2 ^ s)).times (fracP n d (2 ^ s)) (2 ^ s)) (2 ^ s) k).lo ≠ 0) : 3 * k + 1 ≤ s := by
  have hS : 0 < 2 ^ s := Nat.two_pow_pos s
  have h3 := frac_third (S := 2 ^ s) hd h
  have := atT_small hS h3 (sq_small hS h3) k
  have h1 : 3 * 9 ^ k ≤ 2 ^ s := Nat.le_trans (Nat.le_mul_of_pos_right _ (Nat.pos_of_ne_zero hk)) this
  have h2 : 2 ^ (3 * k + 1) ≤ 3 * 9 ^ k := by
    rw [Nat.pow_succ, Nat.pow_mul]
    have : (2 ^ 3) ^ k ≤ 9 ^ k := Nat.pow_le_pow_left (by decide) k
    omega
  exact (Nat.pow_le_pow_iff_right (by omega)).1 (Nat.le_trans h2 h1)
/-- What is told is at most so wide. -/
theorem atR_wide {s N : Nat} (hs : 8 ≤ s) (hd : 0 < d) (h : 3 * n ≤ d) (hN : (atT (fracP n d (2 ^ s)) ((fracP n d (2 ^ s)).times (fracP n d (2 ^ s)) (2 ^ s)) (2 ^ s) N).lo = 0) (hr : 3 * N ≤ s + 2) :
    (atR n d (2 ^ s) N).lo ≤ (atR n d (2 ^ s) N).hi ∧ (atR n d (2 ^ s) N).hi ≤ (atR n d (2 ^ s) N).lo + (s + 64) := by
  have hS : 8 ≤ 2 ^ s := by have := Nat.pow_le_pow_right (n := 2) (by omega) hs; omega
  have hp : 0 < 2 ^ s := by omega
  generalize hSd : 2 ^ s = S at *
  have h3 := frac_third (S := S) hd h
  have h9 := sq_small hp h3
  have t1 := frac_thin (n := n) (S := S) hd
  have q1 := sq_thin hS h3 t1
  have a := atS_thin hS h3 h9 t1 q1 N
  have b := atT_thin hS h3 h9 t1 q1 N
  have c := atS_le (S := S) frac_le (times_le (S := S) frac_le frac_le) N (t := fracP n d S) (q := (fracP n d S).times (fracP n d S) S)
  unfold atR Pr.rest
  simp only
  omega
end

/-- What is told of atanh of A divided by B at the scale s. -/
structure AtOk (A B s L H : Nat) : Prop where
  le : L ≤ H
  wide : H ≤ L + (s + 64)
  lo : ∀ x : Rat, x * (B : Rat) = (A : Rat) → 0 ≤ x → (L : Rat) ≤ ((2 ^ s : Nat) : Rat) * atA x s
  hi : ∀ x : Rat, x * (B : Rat) = (A : Rat) → 0 ≤ x → 3 * x ≤ 1 → ∀ K, ((2 ^ s : Nat) : Rat) * atA x K ≤ (H : Rat)
  short : L ≤ s * 2 ^ s
theorem atA_zero : ∀ K, atA 0 K = 0
  | 0 => rfl
  | K + 1 => by rw [atA_succ, atA_zero K, Rat.pow_succ]; grind
theorem rq_zero {x : Rat} {B : Nat} (hB : B ≠ 0) (h : x * (B : Rat) = ((0 : Nat) : Rat)) : x = 0 := by
  have hp := rq_nat_pos (Nat.pos_of_ne_zero hB)
  refine Rat.le_antisymm (rq_cancel hp ?_) (rq_cancel hp ?_)
  · rw [h]; simp
  · rw [h]; simp
theorem atOk_zero {B s : Nat} (hB : B ≠ 0) : AtOk 0 B s 0 0 := by
  refine ⟨Nat.le_refl _, by omega, fun x hx _ => ?_, fun x hx _ _ K => ?_, Nat.zero_le _⟩
  · rw [rq_zero hB hx, atA_zero]; simp
  · rw [rq_zero hB hx, atA_zero]; simp
section
variable {n d S : Nat}
theorem atS_short {t q : Pr} (hS : 0 < S) (h3 : 3 * t.lo ≤ S) (h9 : 9 * q.lo ≤ S) : ∀ k, (atS t q S k).lo ≤ k * S
  | 0 => by simp [atS]
  | k + 1 => by
    have h1 := atS_short hS h3 h9 k
    have h2 := atT_small hS h3 h9 k
    have h4 : (atT t q S k).lo ≤ S := by
      refine Nat.le_trans (Nat.le_mul_of_pos_left _ ?_) h2
      have := Nat.one_le_pow k 9 (by omega); omega
    have h5 : (atT t q S k).lo / (2 * k + 1) ≤ S := Nat.le_trans (Nat.div_le_self _ _) h4
    rw [atS_succ, Nat.add_mul]
    simp only [Pr.plus, Pr.by]
    omega
theorem atR_ok {s N : Nat} (hs : 8 ≤ s) (hd : 0 < d) (h : 3 * n ≤ d) (hN : (atT (fracP n d (2 ^ s)) ((fracP n d (2 ^ s)).times (fracP n d (2 ^ s)) (2 ^ s)) (2 ^ s) N).lo = 0) (hr : 3 * N ≤ s + 2) :
    AtOk n d s (atR n d (2 ^ s) N).lo (atR n d (2 ^ s) N).hi := by
  have hS : 0 < 2 ^ s := Nat.two_pow_pos s
  obtain ⟨w1, w2⟩ := atR_wide hs hd h hN hr
  have h3 := frac_third (S := 2 ^ s) hd h
  refine ⟨w1, w2, fun x hx h0 => ?_, fun x hx h0 h1 K => atR_hi hS hd hx h0 h1 N K, ?_⟩
  · refine Rat.le_trans (atR_lo hS hd hx N) (Rat.mul_le_mul_of_nonneg_left (atA_mono h0 (by omega)) (rq_nat_nonneg _))
  · exact Nat.le_trans (atS_short hS h3 (sq_small hS h3) N) (Nat.mul_le_mul_right _ (by omega))
end

/-! ### the document's -/
def refH (R q M : Nat) : Nat → Nat
  | 0 => 0
  | j + 1 => R / (2 * (M - j) + 1) + refH R q M j * q / R
theorem refH_succ (R q M j : Nat) : refH R q M (j + 1) = R / (2 * (M - j) + 1) + refH R q M j * q / R := rfl
def refAt (n d R M : Nat) : Nat :=
  let r := n * R / d
  refH R (r * r / R) M (M + 1) * r / R

section
variable {n d R M : Nat} {x : Rat}
theorem refH_le {q : Nat} (hR : 0 < R) (h0 : 0 ≤ x) (hq : (q : Rat) ≤ R * (x * x)) : ∀ j, j ≤ M + 1 → (refH R q M j : Rat) ≤ R * atG x (M + 1 - j) j
  | 0, _ => by rw [atG_zero]; simp [refH]
  | j + 1, hj => by
    have ih := refH_le hR h0 hq j (by omega)
    have h1 : ((R / (2 * (M - j) + 1) : Nat) : Rat) ≤ R * ((2 * (M - j) + 1 : Nat) : Rat)⁻¹ := by
      have hi := rq_inv (2 * (M - j) + 1) (by omega)
      refine rq_cancel (rq_nat_pos (n := 2 * (M - j) + 1) (by omega)) (Rat.le_trans (rq_div_le _ _) ?_)
      rw [Rat.mul_assoc, hi, Rat.mul_one]
      exact Rat.le_refl
    have h2 : ((refH R q M j * q / R : Nat) : Rat) ≤ R * (x * x * atG x (M + 1 - j) j) := by
      refine rq_cancel (rq_nat_pos hR) (Rat.le_trans (rq_div_le _ _) ?_)
      rw [Rat.natCast_mul]
      have := rq_mul_le (rq_nat_nonneg _) ih (rq_nat_nonneg q) hq
      grind
    rw [refH_succ, show M + 1 - (j + 1) = M - j by omega]
    rw [atG_succ, Rat.natCast_add, show M - j + 1 = M + 1 - j by omega]
    grind
theorem refH_ge {q : Nat} (hR : 0 < R) (h0 : 0 ≤ x) (h1 : 3 * x ≤ 1) (hq : R * (x * x) ≤ (q : Rat) + 2) (hq1 : (q : Rat) ≤ R * (x * x)) : ∀ j, j ≤ M + 1 → R * atG x (M + 1 - j) j ≤ (refH R q M j : Rat) + 6
  | 0, _ => by rw [atG_zero]; simp [refH]; grind
  | j + 1, hj => by
    have ih := refH_ge hR h0 h1 hq hq1 j (by omega)
    have up := refH_le (M := M) hR h0 hq1 j (by omega)
    have g1 := atG_le h0 h1 j (M + 1 - j)
    have g0 := atG_nonneg h0 j (M + 1 - j)
    have h2 : R * ((2 * (M - j) + 1 : Nat) : Rat)⁻¹ ≤ ((R / (2 * (M - j) + 1) : Nat) : Rat) + 1 := by
      have hi := rq_inv (2 * (M - j) + 1) (by omega)
      have hp := rq_nat_pos (n := 2 * (M - j) + 1) (by omega)
      refine rq_cancel hp ?_
      have := rq_lt_div R (b := 2 * (M - j) + 1) (by omega)
      rw [Rat.mul_assoc, hi, Rat.mul_one]
      grind
    -- the product, and what is lost in it
    have h3 : R * (x * x * atG x (M + 1 - j) j) ≤ ((refH R q M j * q / R : Nat) : Rat) + 4 := by
      have hp := rq_nat_pos hR
      refine rq_cancel hp ?_
      have a := rq_lt_div (refH R q M j * q) hR
      rw [Rat.natCast_mul] at a
      generalize atG x (M + 1 - j) j = g at *
      generalize ((refH R q M j : Nat) : Rat) = u at *
      generalize ((refH R q M j * q / R : Nat) : Rat) = z at *
      -- R g * R x x <= (u + 6) * R x x; u * R x x <= u * q + 2 u
      have q0 : 0 ≤ R * (x * x) := Rat.mul_nonneg (rq_nat_nonneg R) (Rat.mul_nonneg h0 h0)
      have b := Rat.mul_le_mul_of_nonneg_right ih q0
      have c := sq_third h0 h1
      have rg : (R : Rat) * (8 * g) ≤ R * 9 := Rat.mul_le_mul_of_nonneg_left g1 (rq_nat_nonneg R)
      have rc : (R : Rat) * (9 * (x * x)) ≤ R * 1 := Rat.mul_le_mul_of_nonneg_left c (rq_nat_nonneg R)
      have e := Rat.mul_le_mul_of_nonneg_left hq (show 0 ≤ R * g from Rat.mul_nonneg (rq_nat_nonneg R) g0)
      have f := Rat.mul_le_mul_of_nonneg_right ih (rq_nat_nonneg q)
      grind
    rw [refH_succ, show M + 1 - (j + 1) = M - j by omega]
    rw [atG_succ, Rat.natCast_add, show M - j + 1 = M + 1 - j by omega]
    grind
theorem refAt_le (hR : 0 < R) (hd : 0 < d) (hx : x * (d : Rat) = (n : Rat)) (h0 : 0 ≤ x) : ((refAt n d R M : Nat) : Rat) ≤ R * atA x (M + 1) := by
  have hr : ((n * R / d : Nat) : Rat) ≤ R * x := frac_lo (S := R) hd hx
  have hq := times_lo (p := ⟨n * R / d, 0⟩) (q := ⟨n * R / d, 0⟩) hR hr hr
  have hh := refH_le (M := M) hR h0 hq (M + 1) (Nat.le_refl _)
  have ha := atA_add (x := x) (M + 1) 0
  rw [Nat.sub_self] at hh
  simp only [Nat.zero_add, Nat.mul_zero, Rat.pow_one] at ha
  rw [show atA x 0 = 0 from rfl] at ha
  unfold refAt
  refine rq_cancel (rq_nat_pos hR) (Rat.le_trans (rq_div_le _ _) ?_)
  rw [Rat.natCast_mul]
  have := rq_mul_le (rq_nat_nonneg _) hh (rq_nat_nonneg _) hr
  simp only [Pr.times] at this
  rw [ha, show (R : Rat) * (0 + x * atG x 0 (M + 1)) * R = R * atG x 0 (M + 1) * (R * x) by grind]
  exact this
theorem refAt_ge (hR : 0 < R) (hd : 0 < d) (hx : x * (d : Rat) = (n : Rat)) (h0 : 0 ≤ x) (h1 : 3 * x ≤ 1) : R * atA x (M + 1) ≤ ((refAt n d R M : Nat) : Rat) + 6 := by
  have hp := rq_nat_pos hR
  have hr : ((n * R / d : Nat) : Rat) ≤ R * x := frac_lo (S := R) hd hx
  have hr2 : R * x ≤ ((n * R / d : Nat) : Rat) + 1 := by
    refine rq_cancel (rq_nat_pos hd) ?_
    have := rq_lt_div (n * R) hd
    rw [Rat.natCast_mul] at this
    grind
  have hq := times_lo (p := ⟨n * R / d, 0⟩) (q := ⟨n * R / d, 0⟩) hR hr hr
  simp only [Pr.times] at hq
  unfold refAt
  simp only
  generalize n * R / d = r at *
  have rr := rq_nat_nonneg r
  have hq2 : R * (x * x) ≤ ((r * r / R : Nat) : Rat) + 2 := by
    refine rq_cancel hp ?_
    have a := rq_lt_div (r * r) hR
    rw [Rat.natCast_mul] at a
    have b := Rat.mul_le_mul_of_nonneg_left hr2 (show 0 ≤ R * x from Rat.mul_nonneg (rq_nat_nonneg R) h0)
    have c := Rat.mul_le_mul_of_nonneg_right hr2 rr
    have e := Rat.mul_le_mul_of_nonneg_left h1 (rq_nat_nonneg R)
    grind
  have hh := refH_ge (M := M) hR h0 h1 hq2 hq (M + 1) (Nat.le_refl _)
  have g1 := atG_le h0 h1 (M + 1) 0
  have g0 := atG_nonneg h0 (M + 1) 0
  have ha := atA_add (x := x) (M + 1) 0
  rw [Nat.sub_self] at hh
  simp only [Nat.zero_add, Nat.mul_zero, Rat.pow_one] at ha
  rw [show atA x 0 = 0 from rfl] at ha
  refine rq_cancel hp ?_
  have a := rq_lt_div (refH R (r * r / R) M (M + 1) * r) hR
  rw [Rat.natCast_mul] at a
  rw [ha]
  generalize ((refH R (r * r / R) M (M + 1) : Nat) : Rat) = u at *
  generalize ((refH R (r * r / R) M (M + 1) * r / R : Nat) : Rat) = z at *
  generalize atG x 0 (M + 1) = g at *
  have e := Rat.mul_le_mul_of_nonneg_left hr2 (show 0 ≤ R * g from Rat.mul_nonneg (rq_nat_nonneg R) g0)
  have f := Rat.mul_le_mul_of_nonneg_right hh rr
  have i := Rat.mul_le_mul_of_nonneg_left h1 (rq_nat_nonneg R)
  have k := Rat.mul_le_mul_of_nonneg_left g1 (rq_nat_nonneg R)
  grind
end
end Go.Proofs.YtecgimdgmilcbaaDoor
