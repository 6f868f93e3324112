/- Dyads: a sign, a whole number, an exponent of two: bare ones, their order. Conditions: none. -/
import Derived.Test.YtflkemcoomgoiaaDoorBaseL
namespace Go.Proofs.YtflkemcoomgoiaaDoor
set_option maxRecDepth 100000

/-- How often two divides n (0 of 0). -/
def low2F : Nat → Nat → Nat
  | 0, _ => 0
  | f + 1, n => if n % 2 = 0 then low2F f (n / 2) + 1 else 0
def low2 (n : Nat) : Nat := if n = 0 then 0 else low2F n n
theorem low2F_eq : ∀ (f n : Nat), n ≠ 0 → n ≤ f → ∃ m, n = 2 ^ low2F f n * (2 * m + 1)
  | 0, n, h0, h => by omega
  | f + 1, n, h0, h => by
    unfold low2F
    by_cases h2 : n % 2 = 0
    · rw [if_pos h2]
      obtain ⟨m, hm⟩ := low2F_eq f (n / 2) (by omega) (by omega)
      refine ⟨m, ?_⟩
      rw [Nat.pow_succ, Nat.mul_comm _ 2, Nat.mul_assoc, ← hm]; omega
    · rw [if_neg h2, Nat.pow_zero]
      exact ⟨n / 2, by omega⟩
theorem low2_eq {n : Nat} (h : n ≠ 0) : ∃ m, n = 2 ^ low2 n * (2 * m + 1) := by
  unfold low2
  rw [if_neg h]
  exact low2F_eq n n h (Nat.le_refl _)
theorem pow_odd_inj {j k a b : Nat} (h : 2 ^ j * (2 * a + 1) = 2 ^ k * (2 * b + 1)) : j = k := by
  rcases Nat.lt_trichotomy j k with h1 | h1 | h1
  · exfalso
    obtain ⟨d, rfl⟩ : ∃ d, k = j + 1 + d := ⟨k - j - 1, by omega⟩
    rw [Nat.pow_add, Nat.pow_succ, Nat.mul_assoc, Nat.mul_assoc] at h
    have := Nat.eq_of_mul_eq_mul_left (Nat.pow_pos (by omega)) h
    omega
  · exact h1
  · exfalso
    obtain ⟨d, rfl⟩ : ∃ d, j = k + 1 + d := ⟨j - k - 1, by omega⟩
    rw [Nat.pow_add, Nat.pow_succ, Nat.mul_assoc, Nat.mul_assoc] at h
    have := Nat.eq_of_mul_eq_mul_left (Nat.pow_pos (by omega)) h
    omega
theorem low2_uniq {n k m : Nat} (h : n = 2 ^ k * (2 * m + 1)) : low2 n = k := by
  have h0 : n ≠ 0 := by
    rw [h]; exact Nat.mul_ne_zero (Nat.ne_of_gt (Nat.pow_pos (by omega))) (by omega)
  obtain ⟨a, ha⟩ := low2_eq h0
  exact pow_odd_inj (ha.symm.trans h)
theorem odd_eq {n k m : Nat} (h : n = 2 ^ k * (2 * m + 1)) : n / 2 ^ k = 2 * m + 1 := by
  rw [h, Nat.mul_div_cancel_left _ (Nat.pow_pos (by omega))]

/-- A dyad: (-1)^neg * m * 2^e. -/
structure Dn where
  neg : Bool
  m : Nat
  e : Int
/-- An exponent within the ends. -/
def cutE (e : Int) : Int := min (max e (-2147483648)) 2147483648
/-- The bare one: an odd number, or nothing at all. -/
def bareD (d : Dn) : Dn := if d.m = 0 then ⟨false, 0, 0⟩ else ⟨d.neg, d.m / 2 ^ low2 d.m, cutE d.e + (low2 d.m : Nat)⟩
def fitsE (e : Int) : Bool := decide (-1073741824 ≤ e) && decide (e ≤ 1073741824)
theorem bareD_zero {d : Dn} (h : d.m = 0) : bareD d = ⟨false, 0, 0⟩ := by unfold bareD; rw [if_pos h]
theorem bareD_pos {d : Dn} (h : d.m ≠ 0) : bareD d = ⟨d.neg, d.m / 2 ^ low2 d.m, cutE d.e + (low2 d.m : Nat)⟩ := by unfold bareD; rw [if_neg h]
theorem bareD_m_le (d : Dn) : (bareD d).m ≤ d.m := by
  unfold bareD; split
  · exact Nat.zero_le _
  · exact Nat.div_le_self _ _
theorem bareD_m_zero (d : Dn) : (bareD d).m = 0 ↔ d.m = 0 := by
  by_cases h : d.m = 0
  · rw [bareD_zero h, h]
  · rw [bareD_pos h]
    obtain ⟨k, hk⟩ := low2_eq h
    show d.m / 2 ^ low2 d.m = 0 ↔ _
    rw [odd_eq hk]
    constructor
    · intro h2; omega
    · intro h2; exact absurd h2 h
theorem low2_lt {n : Nat} (h : n ≠ 0) : low2 n < bitN n := by
  obtain ⟨k, hk⟩ := low2_eq h
  apply lt_bitN.2
  have := Nat.le_mul_of_pos_right (2 ^ low2 n) (show 0 < 2 * k + 1 by omega)
  omega
theorem cutE_range (e : Int) : -2147483648 ≤ cutE e ∧ cutE e ≤ 2147483648 := by unfold cutE; omega
/-- Bare once is bare: an odd number stays. -/
theorem low2_odd {n : Nat} (h : n % 2 = 1) : low2 n = 0 := low2_uniq (k := 0) (m := n / 2) (by rw [Nat.pow_zero]; omega)

/-- The sign. -/
def signD (d : Dn) : Int := if d.m = 0 then 0 else if d.neg then -1 else 1
/-- Two sizes, by whole numbers at one exponent. -/
def cmpM (a b : Dn) : Int := cmpN (a.m * 2 ^ (a.e - min a.e b.e).toNat) (b.m * 2 ^ (b.e - min a.e b.e).toNat)
/-- The order of two. -/
def cmpI (x y : Int) : Int := if x < y then -1 else if x > y then 1 else 0
def cmpD (a b : Dn) : Int := if signD a ≠ signD b ∨ signD a = 0 then cmpI (signD a) (signD b) else signD a * cmpM a b
/-- The greatest power of two. -/
def topD (d : Dn) : Int := (bitN d.m : Nat) - 1 + d.e

theorem bitN_shift {m : Nat} (h : m ≠ 0) (k : Nat) : bitN (m * 2 ^ k) = bitN m + k := by
  have := bitN_add (p := k) (lo := 0) (t := m) (Nat.pow_pos (by omega)) h
  rw [Nat.zero_add, Nat.mul_comm] at this
  rw [this, Nat.add_comm]
theorem lt_of_bitN {a b : Nat} (h : bitN a < bitN b) : a < b := by
  have h1 := bitN_lt a
  have h2 : 2 ^ bitN a ≤ b := lt_bitN.1 h
  omega
/-- Where the tops differ, they tell. -/
theorem cmpM_tops {a b : Dn} (ha : a.m ≠ 0) (hb : b.m ≠ 0) (h : (bitN a.m : Int) + a.e ≠ (bitN b.m : Int) + b.e) : cmpM a b = cmpI ((bitN a.m : Int) + a.e) ((bitN b.m : Int) + b.e) := by
  have e1 := bitN_shift ha (a.e - min a.e b.e).toNat
  have e2 := bitN_shift hb (b.e - min a.e b.e).toNat
  have t1 : ((a.e - min a.e b.e).toNat : Int) = a.e - min a.e b.e := Int.toNat_of_nonneg (by omega)
  have t2 : ((b.e - min a.e b.e).toNat : Int) = b.e - min a.e b.e := Int.toNat_of_nonneg (by omega)
  unfold cmpM cmpI
  rcases Int.lt_or_gt_of_ne h with h1 | h1
  · rw [if_pos h1]
    exact cmpN_lt (lt_of_bitN (by omega))
  · rw [if_neg (by omega), if_pos h1]
    exact cmpN_gt (lt_of_bitN (by omega))
/-- Where they are one, the one with fewer bits is shifted. -/
theorem cmpM_same {a b : Dn} (h : (bitN a.m : Int) + a.e = (bitN b.m : Int) + b.e) : cmpM a b = cmpN (a.m * 2 ^ (bitN b.m - bitN a.m)) (b.m * 2 ^ (bitN a.m - bitN b.m)) := by
  unfold cmpM
  congr 3
  · congr 1; omega
  · congr 1; omega
end Go.Proofs.YtflkemcoomgoiaaDoor

/- Sums of dyads, plainly: what Make, Bare, Add tell. Conditions: none. -/
namespace Go.Proofs.YtflkemcoomgoiaaDoor
set_option maxRecDepth 100000

/-- The sum of two, told as digits at the lower exponent. -/
def addR (neg neg2 : Bool) (X Y : Nat) : Bool × Nat := if neg = neg2 then (neg, X + Y) else if Y ≤ X then (neg, X - Y) else (neg2, Y - X)
/-- What Bare and Make tell: a dyad and an error's number. -/
def makeQ (d : Dn) : Bool × Nat × Int × Int := if fitsE (bareD d).e = true then ((bareD d).neg, (bareD d).m, (bareD d).e, 0) else (false, 0, 0, 2)
/-- The sum of two bare ones. -/
def sumD (a b : Dn) : Dn := ⟨(addR a.neg b.neg (a.m * 2 ^ (a.e - min a.e b.e).toNat) (b.m * 2 ^ (b.e - min a.e b.e).toNat)).1, (addR a.neg b.neg (a.m * 2 ^ (a.e - min a.e b.e).toNat) (b.m * 2 ^ (b.e - min a.e b.e).toNat)).2, min a.e b.e⟩
/-- What Add tells. -/
def addQ (a b : Dn) : Bool × Nat × Int × Int :=
  if fitsE (bareD a).e = false then (false, 0, 0, 2) else if fitsE (bareD b).e = false then (false, 0, 0, 2)
  else if (bareD a).m = 0 then ((bareD b).neg, (bareD b).m, (bareD b).e, 0) else if (bareD b).m = 0 then ((bareD a).neg, (bareD a).m, (bareD a).e, 0)
  else if 65535 < max (topD (bareD a)) (topD (bareD b)) - min (bareD a).e (bareD b).e then (false, 0, 0, 2) else makeQ (sumD (bareD a) (bareD b))

end Go.Proofs.YtflkemcoomgoiaaDoor

/- What is bare, plainly. -/
namespace Go.Proofs.YtflkemcoomgoiaaDoor
set_option maxRecDepth 100000

theorem bareD_bits {neg n' : Bool} {M M' : Nat} {E E' : Int} (e : bareD ⟨neg, M, E⟩ = ⟨n', M', E'⟩) : bitN M' ≤ bitN M := by
  have h := bareD_m_le ⟨neg, M, E⟩
  rw [e] at h
  exact bitN_mono h
theorem bareD_again {neg n' : Bool} {M M' : Nat} {E E' : Int} (e : bareD ⟨neg, M, E⟩ = ⟨n', M', E'⟩) (h1 : -2147483648 ≤ E') (h2 : E' ≤ 2147483648) : bareD ⟨n', M', E'⟩ = ⟨n', M', E'⟩ := by
  by_cases h0 : M = 0
  · rw [bareD_zero h0] at e
    injection e with e1 e2 e3
    subst e1; subst e2; subst e3
    rfl
  · rw [bareD_pos h0] at e
    injection e with e1 e2 e3
    obtain ⟨m, hm⟩ := low2_eq h0
    have : M' % 2 = 1 := by rw [← e2, odd_eq hm]; omega
    have h3 : (⟨n', M', E'⟩ : Dn).m ≠ 0 := by show M' ≠ 0; omega
    rw [bareD_pos h3]
    show (⟨n', M' / 2 ^ low2 M', cutE E' + (low2 M' : Nat)⟩ : Dn) = _
    rw [low2_odd this, Nat.pow_zero, Nat.div_one, show cutE E' = E' by unfold cutE; omega]
    simp
theorem bareD_fits {neg n' : Bool} {M M' : Nat} {E E' : Int} (e : bareD ⟨neg, M, E⟩ = ⟨n', M', E'⟩) (sM : bitN M ≤ 400000) (h1 : -1000000000 ≤ E) (h2 : E ≤ 1000000000) : fitsE E' = true ∧ -1000000000 ≤ E' ∧ E' ≤ 1001000000 := by
  by_cases h0 : M = 0
  · rw [bareD_zero h0] at e
    injection e with e1 e2 e3
    subst e3
    exact ⟨rfl, by omega, by omega⟩
  · rw [bareD_pos h0] at e
    injection e with e1 e2 e3
    have h3 := low2_lt (n := M) h0
    have h4 : cutE E = E := by unfold cutE; omega
    dsimp only at e3
    rw [h4] at e3
    refine ⟨?_, by omega, by omega⟩
    unfold fitsE
    rw [Bool.and_eq_true]
    exact ⟨decide_eq_true (by omega), decide_eq_true (by omega)⟩
theorem bareD_oddM {n n' : Bool} {M M' : Nat} {E E' : Int} (e : bareD ⟨n, M, E⟩ = ⟨n', M', E'⟩) (h : M' ≠ 0) : M' % 2 = 1 := by
  have h0 : M ≠ 0 := fun h0 => by
    rw [bareD_zero h0] at e
    injection e with e1 e2 e3
    exact h e2.symm
  rw [bareD_pos h0] at e
  injection e with e1 e2 e3
  obtain ⟨m, hm⟩ := low2_eq h0
  rw [← e2]
  show M / 2 ^ low2 M % 2 = 1
  rw [odd_eq hm]; omega
end Go.Proofs.YtflkemcoomgoiaaDoor
