/- Sizes, breakpoints, and what comparisons tell of a power, plainly. Conditions: none. -/
import Derived.Test.YtabdmnjdmnnejaaDoorRatG
import Derived.Test.YtabdmnjdmnnejaaDoorPwLaw
import Derived.Test.YtabdmnjdmnnejaaDoorDyG
import Derived.Test.YtabdmnjdmnnejaaDoorBaseL
namespace Go.Proofs.YtabdmnjdmnnejaaDoor
set_option maxRecDepth 100000
set_option linter.unusedVariables false

/-- A size's whole number and its unit. -/
def sigF (s : Nat) : Nat := if s / 4503599627370496 = 0 then s else s % 4503599627370496 + 4503599627370496
def unitE (s : Nat) : Int := if s / 4503599627370496 = 0 then -1074 else ((s / 4503599627370496 : Nat) : Int) - 1075
/-- What a size is worth; what the middle behind it is worth. -/
def szv (s : Nat) : Rat := (sigF s : Rat) * pw (unitE s)
def mdv (s : Nat) : Rat := ((2 * sigF s + 1 : Nat) : Rat) * pw (unitE s - 1)
theorem sz_code {G n : Nat} (h : (n = 0 ∧ G < 9007199254740992) ∨ (4503599627370496 ≤ G ∧ G < 9007199254740992)) :
    sigF (n * 4503599627370496 + G) = G ∧ unitE (n * 4503599627370496 + G) = (n : Int) - 1074 := by
  unfold sigF unitE
  rcases h with ⟨rfl, h⟩ | ⟨h1, h2⟩
  · rw [Nat.zero_mul, Nat.zero_add]
    by_cases hd : G / 4503599627370496 = 0
    · rw [if_pos hd, if_pos hd]; exact ⟨rfl, rfl⟩
    · rw [if_neg hd, if_neg hd]; omega
  · have hd : ¬ (n * 4503599627370496 + G) / 4503599627370496 = 0 := by omega
    rw [if_neg hd, if_neg hd]; omega
theorem sz_next (s : Nat) : (sigF (s + 1) = sigF s + 1 ∧ unitE (s + 1) = unitE s) ∨ (sigF s + 1 = 9007199254740992 ∧ sigF (s + 1) = 4503599627370496 ∧ unitE (s + 1) = unitE s + 1) := by
  unfold sigF unitE
  by_cases h1 : s / 4503599627370496 = 0
  · by_cases h2 : (s + 1) / 4503599627370496 = 0
    · rw [if_pos h1, if_pos h1, if_pos h2, if_pos h2]; exact .inl ⟨rfl, rfl⟩
    · rw [if_pos h1, if_pos h1, if_neg h2, if_neg h2]; left; omega
  · have h2 : ¬ (s + 1) / 4503599627370496 = 0 := by omega
    rw [if_neg h1, if_neg h1, if_neg h2, if_neg h2]
    omega
theorem pw_succ (e : Int) : pw (e + 1) = 2 * pw e := by
  rw [pw_add, pw_one]; grind
theorem szv_succ (s : Nat) : szv (s + 1) = ((sigF s + 1 : Nat) : Rat) * pw (unitE s) := by
  unfold szv
  rcases sz_next s with ⟨h1, h2⟩ | ⟨h1, h2, h3⟩
  · rw [h1, h2]
  · rw [h1, h2, h3, pw_succ]
    have : ((9007199254740992 : Nat) : Rat) = ((4503599627370496 : Nat) : Rat) * 2 := by
      rw [show (9007199254740992 : Nat) = 4503599627370496 * 2 from rfl, Rat.natCast_mul]; rfl
    rw [this]
    grind
theorem szv_mid (s : Nat) : szv s < mdv s ∧ mdv s < szv (s + 1) := by
  have hp := pw_pos (unitE s - 1)
  have hu : pw (unitE s) = 2 * pw (unitE s - 1) := by rw [← pw_succ]; congr 1; omega
  rw [szv_succ]
  unfold szv mdv
  rw [hu, Rat.natCast_add, Rat.natCast_add, Rat.natCast_mul]
  have h2 : ((2 : Nat) : Rat) = 2 := rfl
  have h1 : ((1 : Nat) : Rat) = 1 := rfl
  rw [h1, h2]
  generalize pw (unitE s - 1) = p at *
  generalize ((sigF s : Nat) : Rat) = f
  constructor
  · have : (2 * f + 1) * p = f * (2 * p) + p := by grind
    rw [this]; grind
  · have : (f + 1) * (2 * p) = (2 * f + 1) * p + p := by grind
    rw [this]; grind
theorem szv_lt (s : Nat) : szv s < szv (s + 1) := by
  have := szv_mid s
  grind
theorem szv_mono {s t : Nat} (h : s ≤ t) : szv s ≤ szv t := by
  obtain ⟨d, rfl⟩ : ∃ d, t = s + d := ⟨t - s, by omega⟩
  induction d with
  | zero => exact Rat.le_refl
  | succ d ih => exact Rat.le_trans (ih (by omega)) (Rat.le_of_lt (szv_lt (s + d)))
theorem szv_mono_lt {s t : Nat} (h : s < t) : szv s < szv t := by
  have h1 := szv_lt s
  have h2 := szv_mono (show s + 1 ≤ t by omega)
  grind
theorem sigF_pos {s : Nat} (h : 0 < s) : sigF s ≠ 0 := by unfold sigF; split <;> omega
theorem sigF_lt (s : Nat) : sigF s < 9007199254740992 := by unfold sigF; split <;> omega
theorem unitE_ge (s : Nat) : -1074 ≤ unitE s := by unfold unitE; split <;> omega
theorem unitE_le {s : Nat} (h : s ≤ 9218868437227405312) : unitE s ≤ 972 := by unfold unitE; split <;> omega
theorem unitE_lt {s : Nat} (h : s < 9218868437227405312) : unitE s ≤ 971 := by unfold unitE; split <;> omega

/-- A breakpoint is worth what a size is, or the middle behind one. -/
theorem brk_size {P : Nat} {F : Int} (h0 : P ≠ 0) (h : isBrk P F = true) : ∃ s : Nat, (1 ≤ s ∧ s ≤ 9218868437227405312 ∧ (P : Rat) * pw F = szv s) ∨ (s < 9218868437227405312 ∧ (P : Rat) * pw F = mdv s) := by
  have hb := bitN_pos h0
  have hl := bitN_lt P
  have hg := bitN_ge h0
  unfold isBrk topD at h
  dsimp only at h
  generalize bitN P = b at *
  split at h
  · simp only [Bool.and_eq_true, decide_eq_true_eq] at h
    obtain ⟨rfl, rfl⟩ := h
    obtain rfl : P = 1 := by omega
    refine ⟨9218868437227405312, .inl ⟨by omega, by omega, ?_⟩⟩
    obtain ⟨e1, e2⟩ := sz_code (n := 2046) (G := 4503599627370496) (.inr ⟨by omega, by omega⟩)
    unfold szv
    rw [show (9218868437227405312 : Nat) = 2046 * 4503599627370496 + 4503599627370496 from rfl, e1, e2, show ((4503599627370496 : Nat) : Rat) = ((2 ^ 52 : Nat) : Rat) from rfl, ← pw_nat, ← pw_add]
    exact Rat.one_mul _
  · have h := of_decide_eq_true h
    rename_i ht
    obtain ⟨u, hu⟩ : ∃ u, max ((b : Int) - 1 + F - 52) (-1074) = u := ⟨_, rfl⟩
    rw [hu] at h
    obtain ⟨n, hn⟩ : ∃ n : Nat, u = (n : Int) - 1074 := ⟨(u + 1074).toNat, by omega⟩
    by_cases hF : u ≤ F
    · -- a size
      obtain ⟨d, hd⟩ : ∃ d : Nat, F = u + (d : Int) := ⟨(F - u).toNat, by omega⟩
      have hpd := Nat.two_pow_pos d
      have g1 : P * 2 ^ d < 2 ^ (b + d) := by rw [Nat.pow_add]; exact Nat.mul_lt_mul_of_pos_right hl hpd
      have g2 : 2 ^ (b - 1 + d) ≤ P * 2 ^ d := by rw [Nat.pow_add]; exact Nat.mul_le_mul_right _ hg
      have g3 : P * 2 ^ d < 9007199254740992 := Nat.lt_of_lt_of_le g1 (show 2 ^ (b + d) ≤ 2 ^ 53 from Nat.pow_le_pow_right (by omega) (by omega))
      have hcode : (n = 0 ∧ P * 2 ^ d < 9007199254740992) ∨ (4503599627370496 ≤ P * 2 ^ d ∧ P * 2 ^ d < 9007199254740992) := by
        by_cases hn0 : n = 0
        · exact .inl ⟨hn0, g3⟩
        · exact .inr ⟨Nat.le_trans (show 2 ^ 52 ≤ 2 ^ (b - 1 + d) from Nat.pow_le_pow_right (by omega) (by omega)) g2, g3⟩
      obtain ⟨e1, e2⟩ := sz_code hcode
      have hG : 0 < P * 2 ^ d := Nat.mul_pos (Nat.pos_of_ne_zero h0) hpd
      have hn2 : n ≤ 2045 := by clear g1 g2 g3 hl hg hpd hcode e1 e2 hG h0; omega
      have e3 : ((P * 2 ^ d : Nat) : Rat) * pw u = (P : Rat) * pw F := by
        rw [hd, pw_add, pw_nat, Rat.natCast_mul]
        grind
      clear g1 g2 hl hg hpd hcode h ht hu hd hF hb
      generalize P * 2 ^ d = X at *
      refine ⟨n * 4503599627370496 + X, .inl ⟨by omega, by omega, ?_⟩⟩
      unfold szv
      rw [e1, e2, ← hn, e3]
    · -- a middle
      have hF2 : F = u - 1 := by omega
      have hodd : P = 2 * (P / 2) + P % 2 := by omega
      have g3 : P < 18014398509481984 := Nat.lt_of_lt_of_le hl (show 2 ^ b ≤ 2 ^ 54 from Nat.pow_le_pow_right (by omega) (by omega))
      have hn2 : n ≤ 2045 := by clear g3 hl hg h0; omega
      have g4 : n = 0 ∨ 9007199254740992 ≤ P := by
        by_cases hn0 : n = 0
        · exact .inl hn0
        · exact .inr (Nat.le_trans (show 2 ^ 53 ≤ 2 ^ (b - 1) from Nat.pow_le_pow_right (by omega) (by clear hl hg g3; omega)) hg)
      clear hl hg h ht hu hb
      by_cases hpar : P % 2 = 0
      · -- an even one: a size
        have hcode : (n = 0 ∧ P / 2 < 9007199254740992) ∨ (4503599627370496 ≤ P / 2 ∧ P / 2 < 9007199254740992) := by
          rcases g4 with g4 | g4
          · exact .inl ⟨g4, by omega⟩
          · exact .inr ⟨by omega, by omega⟩
        obtain ⟨e1, e2⟩ := sz_code hcode
        refine ⟨n * 4503599627370496 + P / 2, .inl ⟨by omega, by omega, ?_⟩⟩
        unfold szv
        rw [e1, e2, ← hn, hF2]
        have : (P : Rat) = ((P / 2 : Nat) : Rat) * 2 := by
          rw [show (2 : Rat) = ((2 : Nat) : Rat) from rfl, ← Rat.natCast_mul]; congr 1; omega
        rw [this, show u = u - 1 + 1 by omega, pw_succ, show u - 1 + 1 - 1 = u - 1 by omega]
        grind
      · have hcode : (n = 0 ∧ P / 2 < 9007199254740992) ∨ (4503599627370496 ≤ P / 2 ∧ P / 2 < 9007199254740992) := by
          rcases g4 with g4 | g4
          · exact .inl ⟨g4, by omega⟩
          · exact .inr ⟨by omega, by omega⟩
        obtain ⟨e1, e2⟩ := sz_code hcode
        refine ⟨n * 4503599627370496 + P / 2, .inr ⟨by omega, ?_⟩⟩
        unfold mdv
        rw [e1, e2, ← hn, hF2]
        congr 2
        omega
end Go.Proofs.YtabdmnjdmnnejaaDoor

/- What comparisons with breakpoints tell of a power is what is told of it: plainly. Conditions: none. -/
namespace Go.Proofs.YtabdmnjdmnnejaaDoor
set_option maxRecDepth 100000
set_option linter.unusedVariables false

theorem size_brk {s B : Nat} {EB : Int} {n' : Bool} (h1 : 1 ≤ s) (h2 : s ≤ 9218868437227405312) (e : bareD ⟨false, sigF s, unitE s⟩ = ⟨n', B, EB⟩) : isBrk B EB = true := by
  have hF0 := sigF_pos (show 0 < s by omega)
  have hu1 := unitE_ge s; have hu2 := unitE_le h2
  have hb53 : bitN (sigF s) ≤ 53 := bitN_le.2 (sigF_lt s)
  by_cases ht : s = 9218868437227405312
  · subst ht
    have e1 : sigF 9218868437227405312 = 4503599627370496 := by decide
    have e2 : unitE 9218868437227405312 = 972 := by decide
    rw [e1, e2, bareD_pos (by decide)] at e
    have hl : low2 4503599627370496 = 52 := low2_uniq (k := 52) (m := 0) (by decide)
    dsimp only at e
    rw [hl] at e
    injection e with _ e3 e4
    subst e3; subst e4
    decide
  have hu3 := unitE_lt (show s < 9218868437227405312 by omega)
  rw [bareD_pos hF0] at e
  dsimp only at e
  obtain ⟨a, ha⟩ := low2_eq hF0
  have hq := odd_eq ha
  have hc : cutE (unitE s) = unitE s := by unfold cutE; omega
  injection e with _ e3 e4
  rw [hc] at e4
  have hbits : bitN (sigF s) = bitN B + low2 (sigF s) := by
    conv => lhs; rw [ha]
    rw [← e3, hq, Nat.mul_comm, bitN_shift (by omega)]
  generalize low2 (sigF s) = j at *
  generalize bitN (sigF s) = b at *
  unfold isBrk topD
  dsimp only
  generalize bitN B = b2 at *
  rw [if_neg (by omega)]
  exact decide_eq_true (by omega)
theorem mid_brk {s : Nat} (h2 : s < 9218868437227405312) : isBrk (2 * sigF s + 1) (unitE s - 1) = true := by
  have hu1 := unitE_ge s; have hu2 := unitE_lt h2
  have hb53 : bitN (sigF s) ≤ 53 := bitN_le.2 (sigF_lt s)
  have hb : bitN (2 * sigF s + 1) = 1 + bitN (sigF s) := by
    rw [bitN_half (by omega)]; congr 2; omega
  unfold isBrk topD
  dsimp only
  rw [hb]
  generalize bitN (sigF s) = b at *
  rw [if_neg (by omega)]
  exact decide_eq_true (by omega)
theorem bare_szv {s B : Nat} {EB : Int} {n' : Bool} (h1 : 1 ≤ s) (h2 : s ≤ 9218868437227405312) (e : bareD ⟨false, sigF s, unitE s⟩ = ⟨n', B, EB⟩) : B % 2 = 1 ∧ n' = false ∧ (B : Rat) * pw EB = szv s := by
  have hF0 := sigF_pos (show 0 < s by omega)
  have hu1 := unitE_ge s; have hu2 := unitE_le h2
  have hB0 : B ≠ 0 := fun h => hF0 ((bareD_m_zero ⟨false, sigF s, unitE s⟩).1 (by rw [e]; exact h))
  have hn : n' = false := by
    have := bareD_pos (d := ⟨false, sigF s, unitE s⟩) hF0
    rw [e] at this
    injection this
  subst hn
  refine ⟨bareD_oddM e hB0, rfl, ?_⟩
  have := qv_bare (d := ⟨false, sigF s, unitE s⟩) (by dsimp only; omega) (by dsimp only; omega)
  rw [e] at this
  exact this

theorem rq_mul_pow (a b : Rat) : ∀ n : Nat, (a * b) ^ n = a ^ n * b ^ n
  | 0 => by rw [Rat.pow_zero, Rat.pow_zero, Rat.pow_zero, Rat.mul_one]
  | n + 1 => by rw [Rat.pow_succ, Rat.pow_succ, Rat.pow_succ, rq_mul_pow a b n]; grind
theorem pw_mulnat (e : Int) : ∀ n : Nat, pw (e * (n : Int)) = pw e ^ n
  | 0 => by rw [show ((0 : Nat) : Int) = 0 from rfl, Int.mul_zero, pw_zero, Rat.pow_zero]
  | n + 1 => by rw [Int.natCast_add, show ((1 : Nat) : Int) = 1 from rfl, Int.mul_add, Int.mul_one, pw_add, Rat.pow_succ, pw_mulnat e n]
theorem val_pow (M n : Nat) (E : Int) : ((M ^ n : Nat) : Rat) * pw (E * (n : Int)) = ((M : Rat) * pw E) ^ n := by
  rw [rq_mul_pow, pw_mulnat, Rat.natCast_pow]
theorem rq_pow_pos {x : Rat} (h : 0 < x) : ∀ n : Nat, 0 < x ^ n
  | 0 => by rw [Rat.pow_zero]; decide
  | n + 1 => by rw [Rat.pow_succ]; exact Rat.mul_pos (rq_pow_pos h n) h
theorem rq_pow_lt' {x y : Rat} (hx : 0 < x) (h : x < y) : ∀ {n : Nat}, 1 ≤ n → x ^ n < y ^ n
  | 0, hn => by omega
  | n + 1, hn => by
    rw [Rat.pow_succ, Rat.pow_succ]
    have h1 := rq_pow_mono (Rat.le_of_lt hx) (Rat.le_of_lt h) n
    have h2 := rq_pow_pos hx n
    have h3 : x ^ n * x < x ^ n * y := Rat.mul_lt_mul_of_pos_left h h2
    have h4 : x ^ n * y ≤ y ^ n * y := Rat.mul_le_mul_of_nonneg_right h1 (by grind)
    grind

/-- planimeterref10.Cmp, plainly: M times 2^E to the power m to B times 2^EB to the power k. -/
def cmp10 (M : Nat) (E m : Int) (B : Nat) (EB : Int) (k : Nat) : Int :=
  if 0 ≤ m then cmpM ⟨false, M ^ m.natAbs, E * (m.natAbs : Int)⟩ ⟨false, B ^ k, EB * (k : Int)⟩
  else cmpM ⟨false, 1, 0⟩ ⟨false, M ^ m.natAbs * B ^ k, E * (m.natAbs : Int) + EB * (k : Int)⟩
def pa (X : Rat) (m : Int) : Rat := if 0 ≤ m then X ^ m.natAbs else 1
def pc (X : Rat) (m : Int) : Rat := if 0 ≤ m then 1 else X ^ m.natAbs
theorem pc_pos {X : Rat} (h : 0 < X) (m : Int) : 0 < pc X m := by
  unfold pc; split
  · decide
  · exact rq_pow_pos h _
theorem cmpM_val {A B : Nat} {Ea Eb : Int} (hA : A ≠ 0) (hB : B ≠ 0) :
    ((A : Rat) * pw Ea < (B : Rat) * pw Eb ∧ cmpM ⟨false, A, Ea⟩ ⟨false, B, Eb⟩ = -1) ∨ ((A : Rat) * pw Ea = (B : Rat) * pw Eb ∧ cmpM ⟨false, A, Ea⟩ ⟨false, B, Eb⟩ = 0) ∨ ((B : Rat) * pw Eb < (A : Rat) * pw Ea ∧ cmpM ⟨false, A, Ea⟩ ⟨false, B, Eb⟩ = 1) := by
  have s1 : signD ⟨false, A, Ea⟩ = 1 := by unfold signD; rw [if_neg hA]; rfl
  have s2 : signD ⟨false, B, Eb⟩ = 1 := by unfold signD; rw [if_neg hB]; rfl
  have h : cmpD ⟨false, A, Ea⟩ ⟨false, B, Eb⟩ = cmpM ⟨false, A, Ea⟩ ⟨false, B, Eb⟩ := by
    unfold cmpD
    rw [s1, s2, if_neg (by simp), Int.one_mul]
  rw [← h]
  exact cmpD_val ⟨false, A, Ea⟩ ⟨false, B, Eb⟩
theorem cmp10_val {M B k : Nat} {E m EB : Int} {X b : Rat} (hM : M ≠ 0) (hB : B ≠ 0) (hX : (M : Rat) * pw E = X) (hb : (B : Rat) * pw EB = b) :
    (pa X m < pc X m * b ^ k ∧ cmp10 M E m B EB k = -1) ∨ (pa X m = pc X m * b ^ k ∧ cmp10 M E m B EB k = 0) ∨ (pc X m * b ^ k < pa X m ∧ cmp10 M E m B EB k = 1) := by
  subst hX; subst hb
  have p1 : M ^ m.natAbs ≠ 0 := Nat.ne_of_gt (Nat.pow_pos (Nat.pos_of_ne_zero hM))
  have p2 : B ^ k ≠ 0 := Nat.ne_of_gt (Nat.pow_pos (Nat.pos_of_ne_zero hB))
  unfold pa pc cmp10
  by_cases h0 : 0 ≤ m
  · rw [if_pos h0, if_pos h0, if_pos h0, Rat.one_mul, ← val_pow, ← val_pow]
    exact cmpM_val p1 p2
  · rw [if_neg h0, if_neg h0, if_neg h0, ← val_pow, ← val_pow]
    have e : ((M ^ m.natAbs : Nat) : Rat) * pw (E * (m.natAbs : Int)) * (((B ^ k : Nat) : Rat) * pw (EB * (k : Int))) = ((M ^ m.natAbs * B ^ k : Nat) : Rat) * pw (E * (m.natAbs : Int) + EB * (k : Int)) := by
      rw [Rat.natCast_mul, pw_add]; grind
    rw [e]
    have := cmpM_val (Ea := 0) (Eb := E * (m.natAbs : Int) + EB * (k : Int)) (show 1 ≠ 0 by decide) (Nat.mul_ne_zero p1 p2)
    rw [pw_zero, Rat.mul_one] at this
    exact this
/-- An odd whole number times a power of two tells both. -/
theorem odd_uniq {A B : Nat} {a b : Int} (hA : A % 2 = 1) (hB : B % 2 = 1) (h : (A : Rat) * pw a = (B : Rat) * pw b) : A = B ∧ a = b := by
  have key : ∀ {A B : Nat} {a b : Int}, A % 2 = 1 → a ≤ b → (A : Rat) * pw a = (B : Rat) * pw b → A = B ∧ a = b := by
    intro A B a b hA hab h
    obtain ⟨d, rfl⟩ : ∃ d : Nat, b = a + (d : Int) := ⟨(b - a).toNat, by omega⟩
    have hp := pw_pos a
    have h2 : (A : Rat) = ((B * 2 ^ d : Nat) : Rat) := by
      rw [pw_add, pw_nat] at h
      rw [Rat.natCast_mul]
      have h3 : (A : Rat) * pw a = ((B : Rat) * ((2 ^ d : Nat) : Rat)) * pw a := by rw [h]; grind
      refine Rat.le_antisymm (rq_cancel hp ?_) (rq_cancel hp ?_)
      · rw [h3]; exact Rat.le_refl
      · rw [h3]; exact Rat.le_refl
    have h4 : A = B * 2 ^ d := Rat.natCast_inj.1 h2
    rcases d with _ | d
    · rw [Nat.pow_zero, Nat.mul_one] at h4
      exact ⟨h4, by omega⟩
    · rw [Nat.pow_succ, ← Nat.mul_assoc] at h4
      omega
  rcases Int.le_total a b with h1 | h1
  · exact key hA h1 h
  · obtain ⟨h2, h3⟩ := key hB h1 h.symm
    exact ⟨h2.symm, h3.symm⟩
end Go.Proofs.YtabdmnjdmnnejaaDoor

/- ExactTells, plainly: what is told of a power (PowR) is what a search by comparisons finds. Conditions: none. -/
namespace Go.Proofs.YtabdmnjdmnnejaaDoor
set_option maxRecDepth 100000
set_option linter.unusedVariables false

theorem oddpow {a : Nat} (h : a % 2 = 1) : ∀ k, a ^ k % 2 = 1
  | 0 => by rw [Nat.pow_zero]
  | k + 1 => by rw [Nat.pow_succ, Nat.mul_mod, oddpow h k, h]
theorem cmpM_eqs {A B : Nat} {a b : Int} (h : A = B) (h' : a = b) : cmpM ⟨false, A, a⟩ ⟨false, B, b⟩ = 0 := by
  subst h; subst h'
  unfold cmpM
  exact cmpN_eq _
/-- What is told as exact is as great. -/
theorem Raise.hit {M r k g P : Nat} {E f m F : Int} (h1 : r ^ k = M) (h2 : f * (k : Int) = E) (hR : Raise r f m P F) (hg : 1 ≤ g) : cmp10 M E (m * (g : Int)) P F (k * g) = 0 := by
  have hn : (m * (g : Int)).natAbs = m.natAbs * g := by rw [Int.natAbs_mul, Int.natAbs_natCast]
  unfold cmp10
  rw [hn]
  rcases hR.2 with ⟨h3, h4⟩ | ⟨h3, h4, h5⟩
  · have h0 : 0 ≤ m * (g : Int) := Int.mul_nonneg h3 (by omega)
    rw [if_pos h0]
    obtain ⟨n, rfl⟩ : ∃ n : Nat, m = n := ⟨m.toNat, by omega⟩
    rw [Int.toNat_natCast] at h4
    rw [Int.natAbs_natCast]
    refine cmpM_eqs ?_ ?_
    · rw [← h1, h4, ← Nat.pow_mul, ← Nat.pow_mul]; congr 1
      rw [Nat.mul_left_comm]
    · rw [← h2, hR.1, Int.natCast_mul, Int.natCast_mul]; grind
  · have h0 : ¬ 0 ≤ m * (g : Int) := by
      have := Int.mul_neg_of_neg_of_pos h3 (show (0 : Int) < (g : Int) by omega)
      omega
    rw [if_neg h0]
    obtain ⟨n, rfl⟩ : ∃ n : Nat, m = -(n : Int) := ⟨m.natAbs, by omega⟩
    have hn2 : (-(n : Int)).natAbs = n := by omega
    rw [hn2]
    subst h4; subst h5
    rw [Nat.one_pow] at h1
    subst h1
    refine cmpM_eqs ?_ ?_
    · rw [Nat.one_pow, Nat.one_pow]
    · rw [← h2, hR.1, Int.natCast_mul, Int.natCast_mul]; grind
theorem dvd_of_mul {E x : Int} {n k : Nat} (hg : Nat.gcd n k = 1) (h : E * (n : Int) = x * (k : Int)) : ∃ f, f * (k : Int) = E := by
  have h1 : (k : Int) ∣ E * (n : Int) := ⟨x, by rw [h, Int.mul_comm]⟩
  have h2 : k ∣ E.natAbs * n := by
    have := Int.natAbs_dvd_natAbs.2 h1
    rwa [Int.natAbs_mul, Int.natAbs_natCast, Int.natAbs_natCast] at this
  have h3 : k ∣ E.natAbs := Nat.Coprime.dvd_of_dvd_mul_right (show Nat.gcd k n = 1 by rw [Nat.gcd_comm]; exact hg) h2
  have h4 : (k : Int) ∣ E := Int.natAbs_dvd_natAbs.1 (by rwa [Int.natAbs_natCast])
  obtain ⟨f, hf⟩ := h4
  exact ⟨f, by rw [hf, Int.mul_comm]⟩
theorem nat_one_of_mul {a b : Nat} (h : a * b = 1) : a = 1 ∧ b = 1 := ⟨Nat.eq_one_of_mul_eq_one_right h, Nat.eq_one_of_mul_eq_one_left h⟩
/-- What is as great is made so. -/
theorem raise_of {M B k g : Nat} {E m EB : Int} (hM : M % 2 = 1) (hB : B % 2 = 1) (hk : 1 ≤ k) (hg : 1 ≤ g) (hgcd : Nat.gcd m.natAbs k = 1) (h : cmp10 M E (m * (g : Int)) B EB (k * g) = 0) :
    ∃ r f, r ^ k = M ∧ f * (k : Int) = E ∧ Raise r f m B EB := by
  have hn : (m * (g : Int)).natAbs = m.natAbs * g := by rw [Int.natAbs_mul, Int.natAbs_natCast]
  have hgi : (0 : Int) < (g : Int) := by omega
  unfold cmp10 at h
  rw [hn] at h
  by_cases h3 : 0 ≤ m
  · have h0 : 0 ≤ m * (g : Int) := Int.mul_nonneg h3 (by omega)
    rw [if_pos h0] at h
    obtain ⟨n, rfl⟩ : ∃ n : Nat, m = n := ⟨m.toNat, by omega⟩
    rw [Int.natAbs_natCast] at h hgcd
    have p1 := oddpow hM (n * g); have p2 := oddpow hB (k * g)
    have hv : ((M ^ (n * g) : Nat) : Rat) * pw (E * ((n * g : Nat) : Int)) = ((B ^ (k * g) : Nat) : Rat) * pw (EB * ((k * g : Nat) : Int)) := by
      rcases cmpM_val (Ea := E * ((n * g : Nat) : Int)) (Eb := EB * ((k * g : Nat) : Int)) (show M ^ (n * g) ≠ 0 by omega) (show B ^ (k * g) ≠ 0 by omega) with ⟨-, q⟩ | ⟨q, -⟩ | ⟨-, q⟩
      · omega
      · exact q
      · omega
    obtain ⟨e1, e2⟩ := odd_uniq p1 p2 hv
    rw [Nat.pow_mul, Nat.pow_mul] at e1
    have e1 := pow_inj (show 0 < g by omega) e1
    have e2 : E * (n : Int) = EB * (k : Int) := by
      rw [Int.natCast_mul, Int.natCast_mul, ← Int.mul_assoc, ← Int.mul_assoc] at e2
      exact Int.eq_of_mul_eq_mul_right (by omega) e2
    obtain ⟨r, rfl, rfl⟩ := pow_common (n + k) n k M B (Nat.le_refl _) hgcd e1
    obtain ⟨f, rfl⟩ := dvd_of_mul hgcd e2
    refine ⟨r, f, rfl, rfl, ?_, .inl ⟨h3, by rw [Int.toNat_natCast]⟩⟩
    refine Int.eq_of_mul_eq_mul_right (show (k : Int) ≠ 0 by omega) ?_
    rw [← e2, Int.mul_assoc, Int.mul_assoc, Int.mul_comm (k : Int)]
  · have h0 : ¬ 0 ≤ m * (g : Int) := by
      have := Int.mul_neg_of_neg_of_pos (show m < 0 by omega) hgi
      omega
    rw [if_neg h0] at h
    obtain ⟨n, rfl⟩ : ∃ n : Nat, m = -(n : Int) := ⟨m.natAbs, by omega⟩
    have hn2 : (-(n : Int)).natAbs = n := by omega
    rw [hn2] at h hgcd
    have p1 : M ^ (n * g) * B ^ (k * g) % 2 = 1 := by rw [Nat.mul_mod, oddpow hM, oddpow hB]
    have hv : ((1 : Nat) : Rat) * pw 0 = ((M ^ (n * g) * B ^ (k * g) : Nat) : Rat) * pw (E * ((n * g : Nat) : Int) + EB * ((k * g : Nat) : Int)) := by
      rcases cmpM_val (Ea := 0) (Eb := E * ((n * g : Nat) : Int) + EB * ((k * g : Nat) : Int)) (show 1 ≠ 0 by decide) (show M ^ (n * g) * B ^ (k * g) ≠ 0 by omega) with ⟨-, q⟩ | ⟨q, -⟩ | ⟨-, q⟩
      · omega
      · exact q
      · omega
    obtain ⟨e1, e2⟩ := odd_uniq (by decide) p1 hv
    obtain ⟨e3, e4⟩ := nat_one_of_mul e1.symm
    have hng : 0 < n * g := Nat.mul_pos (by omega) (by omega)
    have hkg : 0 < k * g := Nat.mul_pos (by omega) (by omega)
    obtain rfl : M = 1 := pow_inj hng (by rw [e3, Nat.one_pow])
    obtain rfl : B = 1 := pow_inj hkg (by rw [e4, Nat.one_pow])
    have e2 : E * (n : Int) = -EB * (k : Int) := by
      rw [Int.natCast_mul, Int.natCast_mul, ← Int.mul_assoc, ← Int.mul_assoc] at e2
      refine Int.eq_of_mul_eq_mul_right (show (g : Int) ≠ 0 by omega) ?_
      rw [Int.neg_mul, Int.neg_mul]
      omega
    obtain ⟨f, rfl⟩ := dvd_of_mul hgcd e2
    refine ⟨1, f, Nat.one_pow k, rfl, ?_, .inr ⟨by omega, rfl, rfl⟩⟩
    have : -EB = f * (n : Int) := by
      refine Int.eq_of_mul_eq_mul_right (show (k : Int) ≠ 0 by omega) ?_
      rw [← e2, Int.mul_assoc, Int.mul_assoc, Int.mul_comm (k : Int)]
    rw [Int.mul_neg]
    omega

/-- What the search for the size below tells; cz: comparisons with sizes. -/
def BelowR (cz : Nat → Int) (low : Nat) : Prop := low ≤ 9218868437227405312 ∧ (low = 0 ∨ 0 ≤ cz low) ∧ (low < 9218868437227405312 → cz (low + 1) < 0)
/-- What planimeterref11.Power tells behind it; cm: comparisons with middles. -/
def RefP (cz cm : Nat → Int) (low : Nat) (is : Bool) (P : Nat) (F : Int) : Prop :=
  (is = true ∧ 0 < low ∧ cz low = 0 ∧ bareD ⟨false, sigF low, unitE low⟩ = ⟨false, P, F⟩) ∨
  (is = true ∧ low < 9218868437227405312 ∧ cm low = 0 ∧ P = 2 * sigF low + 1 ∧ F = unitE low - 1) ∨
  (is = false ∧ (low = 0 ∨ cz low ≠ 0) ∧ (low < 9218868437227405312 → cm low ≠ 0) ∧ P = 0 ∧ F = 0)
/-- The comparisons that are asked. -/
def czOf (M : Nat) (E m : Int) (k s : Nat) : Int := cmp10 M E m (bareD ⟨false, sigF s, unitE s⟩).m (bareD ⟨false, sigF s, unitE s⟩).e k
def cmOf (M : Nat) (E m : Int) (k s : Nat) : Int := cmp10 M E m (2 * sigF s + 1) (unitE s - 1) k

theorem sz_val {M k s : Nat} {E m : Int} {X : Rat} (hM : M ≠ 0) (hX : (M : Rat) * pw E = X) (h1 : 1 ≤ s) (h2 : s ≤ 9218868437227405312) :
    (pa X m < pc X m * szv s ^ k ∧ czOf M E m k s = -1) ∨ (pa X m = pc X m * szv s ^ k ∧ czOf M E m k s = 0) ∨ (pc X m * szv s ^ k < pa X m ∧ czOf M E m k s = 1) := by
  unfold czOf
  generalize hq : bareD ⟨false, sigF s, unitE s⟩ = d
  obtain ⟨n', B, EB⟩ := d
  obtain ⟨h3, -, h5⟩ := bare_szv h1 h2 hq
  exact cmp10_val hM (by dsimp only; omega) hX h5
theorem mid_val {M k s : Nat} {E m : Int} {X : Rat} (hM : M ≠ 0) (hX : (M : Rat) * pw E = X) :
    (pa X m < pc X m * mdv s ^ k ∧ cmOf M E m k s = -1) ∨ (pa X m = pc X m * mdv s ^ k ∧ cmOf M E m k s = 0) ∨ (pc X m * mdv s ^ k < pa X m ∧ cmOf M E m k s = 1) :=
  cmp10_val hM (by omega) hX rfl
theorem szv_pos {s : Nat} (h : 1 ≤ s) : 0 < szv s := Rat.mul_pos (rq_nat_pos (Nat.pos_of_ne_zero (sigF_pos (show 0 < s by omega)))) (pw_pos _)
theorem mdv_pos (s : Nat) : 0 < mdv s := Rat.mul_pos (rq_nat_pos (by omega)) (pw_pos _)
theorem below_of {c a x y : Rat} {k : Nat} (hc : 0 < c) (hx : 0 < x) (hy : 0 < y) (hk : 1 ≤ k) (h : a = c * x ^ k) : (c * y ^ k ≤ a → y ≤ x) ∧ (a < c * y ^ k → x < y) := by
  subst h
  refine ⟨fun h => ?_, fun h => ?_⟩
  · rcases (Rat.le_total : y ≤ x ∨ x ≤ y) with h1 | h1
    · exact h1
    · rcases Rat.le_iff_lt_or_eq.1 h1 with h2 | h2
      · have h3 := Rat.mul_lt_mul_of_pos_left (rq_pow_lt' hx h2 hk) hc
        grind
      · rw [h2]; exact Rat.le_refl
  · rcases (Rat.le_total : y ≤ x ∨ x ≤ y) with h1 | h1
    · have h3 := Rat.mul_le_mul_of_nonneg_left (rq_pow_mono (Rat.le_of_lt hy) h1 k) (Rat.le_of_lt hc)
      grind
    · rcases Rat.le_iff_lt_or_eq.1 h1 with h2 | h2
      · exact h2
      · rw [h2] at h
        grind
/-- The statement's heart. -/
theorem tell_law {M k g low P P2 : Nat} {E m F F2 : Int} {ok is : Bool} (hM : M % 2 = 1) (hk : 1 ≤ k) (hg : 1 ≤ g) (hgcd : Nat.gcd m.natAbs k = 1) (hp : PowR M E m (k : Int) ok P F)
    (hB : BelowR (czOf M E (m * (g : Int)) (k * g)) low) (hr : RefP (czOf M E (m * (g : Int)) (k * g)) (cmOf M E (m * (g : Int)) (k * g)) low is P2 F2) : is = ok ∧ P2 = P ∧ F2 = F := by
  have hM0 : M ≠ 0 := by omega
  obtain ⟨X, hX⟩ : ∃ X, (M : Rat) * pw E = X := ⟨_, rfl⟩
  have hX0 : 0 < X := by rw [← hX]; exact Rat.mul_pos (rq_nat_pos (by omega)) (pw_pos _)
  have hc := pc_pos hX0 (m * (g : Int))
  have hkg : 1 ≤ k * g := Nat.mul_pos hk hg
  have ek : ((k : Nat) : Int).toNat = k := Int.toNat_natCast k
  -- what is told as exact, by a comparison
  have hit : ok = true → P % 2 = 1 ∧ isBrk P F = true ∧ pa X (m * (g : Int)) = pc X (m * (g : Int)) * ((P : Rat) * pw F) ^ (k * g) := by
    intro hok
    have : P % 2 = 1 ∧ isBrk P F = true ∧ cmp10 M E (m * (g : Int)) P F (k * g) = 0 := by
      rcases hp with ⟨h0, -, rfl, rfl⟩ | ⟨h0, -, hb, ho, r, f, h1, h2, h3⟩ | ⟨-, h0, -⟩
      · subst h0
        refine ⟨by decide, by decide, ?_⟩
        rw [Int.zero_mul]
        unfold cmp10
        rw [if_pos (by decide)]
        refine cmpM_eqs ?_ ?_
        · rw [show (0 : Int).natAbs = 0 from rfl, Nat.pow_zero, Nat.one_pow]
        · rw [show (0 : Int).natAbs = 0 from rfl, Int.zero_mul]; exact Int.mul_zero _
      · rw [ek] at h1
        exact ⟨ho, hb, h3.hit h1 h2 hg⟩
      · rw [h0] at hok; exact absurd hok (by decide)
    refine ⟨this.1, this.2.1, ?_⟩
    rcases cmp10_val (m := m * (g : Int)) (k := k * g) hM0 (show P ≠ 0 by omega) hX rfl with ⟨-, q⟩ | ⟨q, -⟩ | ⟨-, q⟩
    · rw [this.2.2] at q; exact absurd q (by decide)
    · exact q
    · rw [this.2.2] at q; exact absurd q (by decide)
  -- what is found is told
  have found : ∀ {B : Nat} {EB : Int}, B % 2 = 1 → isBrk B EB = true → cmp10 M E (m * (g : Int)) B EB (k * g) = 0 → ok = true ∧ B = P ∧ EB = F := by
    intro B EB hBo hbr h0
    have hok : ok = true := by
      rcases hp with ⟨-, h, -⟩ | ⟨-, h, -⟩ | ⟨h1, -, -, -, h2⟩
      · exact h
      · exact h
      · obtain ⟨r, f, h3, h4, h5⟩ := raise_of hM hBo hk hg hgcd h0
        rw [h2 r f B EB (by rw [ek]; exact h3) h4 h5] at hbr
        exact absurd hbr (by decide)
    refine ⟨hok, ?_⟩
    obtain ⟨hPo, -, he⟩ := hit hok
    have he2 : pa X (m * (g : Int)) = pc X (m * (g : Int)) * ((B : Rat) * pw EB) ^ (k * g) := by
      rcases cmp10_val (m := m * (g : Int)) (k := k * g) hM0 (show B ≠ 0 by omega) hX rfl with ⟨-, q⟩ | ⟨q, -⟩ | ⟨-, q⟩
      · rw [h0] at q; exact absurd q (by decide)
      · exact q
      · rw [h0] at q; exact absurd q (by decide)
    have pB : 0 < (B : Rat) * pw EB := Rat.mul_pos (rq_nat_pos (by omega)) (pw_pos _)
    have pP : 0 < (P : Rat) * pw F := Rat.mul_pos (rq_nat_pos (by omega)) (pw_pos _)
    have a1 := (below_of hc pP pB hkg he).1 (by rw [← he2]; exact Rat.le_refl)
    have a2 := (below_of hc pB pP hkg he2).1 (by rw [← he]; exact Rat.le_refl)
    exact odd_uniq hBo hPo (Rat.le_antisymm a1 a2)
  rcases hr with ⟨rfl, h1, h2, h3⟩ | ⟨rfl, h1, h2, h3, h4⟩ | ⟨rfl, h1, h2, rfl, rfl⟩
  · have hlow : low ≤ 9218868437227405312 := hB.1
    obtain ⟨o, -, -⟩ := bare_szv (show 1 ≤ low by omega) hlow h3
    unfold czOf at h2
    rw [h3] at h2
    obtain ⟨q1, q2, q3⟩ := found o (size_brk (by omega) hlow h3) h2
    exact ⟨q1.symm, q2, q3⟩
  · subst h3; subst h4
    obtain ⟨q1, q2, q3⟩ := found (by omega) (mid_brk h1) h2
    exact ⟨q1.symm, q2, q3⟩
  · cases hok : ok
    · rcases hp with ⟨-, h, -⟩ | ⟨-, h, -⟩ | ⟨-, -, h3, h4, -⟩
      · rw [hok] at h; exact absurd h (by decide)
      · rw [hok] at h; exact absurd h (by decide)
      · exact ⟨rfl, h3.symm, h4.symm⟩
    · exfalso
      obtain ⟨hPo, hbr, he⟩ := hit hok
      have pP : 0 < (P : Rat) * pw F := Rat.mul_pos (rq_nat_pos (by omega)) (pw_pos _)
      obtain ⟨hl1, hl2, hl3⟩ := hB
      have lo : low ≠ 0 → szv low ≤ (P : Rat) * pw F := by
        intro h0
        refine (below_of hc pP (szv_pos (by omega)) hkg he).1 ?_
        rcases sz_val (m := m * (g : Int)) (k := k * g) hM0 hX (show 1 ≤ low by omega) hl1 with ⟨-, q⟩ | ⟨q, -⟩ | ⟨q, -⟩
        · rcases hl2 with h | h
          · exact absurd h h0
          · omega
        · rw [q]; exact Rat.le_refl
        · exact Rat.le_of_lt q
      have hi : low < 9218868437227405312 → (P : Rat) * pw F < szv (low + 1) := by
        intro h0
        refine (below_of hc pP (szv_pos (by omega)) hkg he).2 ?_
        have h5 := hl3 h0
        rcases sz_val (m := m * (g : Int)) (k := k * g) hM0 hX (show 1 ≤ low + 1 by omega) (show low + 1 ≤ 9218868437227405312 by omega) with ⟨q, -⟩ | ⟨-, q⟩ | ⟨-, q⟩
        · exact q
        · omega
        · omega
      obtain ⟨s, hs⟩ := brk_size (show P ≠ 0 by omega) hbr
      rcases hs with ⟨s1, s2, s3⟩ | ⟨s1, s3⟩
      · rw [s3] at lo hi he
        have : low = s := by
          rcases Nat.lt_trichotomy low s with h | h | h
          · have h5 := hi (by omega)
            have h6 := szv_mono (show low + 1 ≤ s by omega)
            grind
          · exact h
          · have h5 := lo (by omega)
            have h6 := szv_mono_lt h
            grind
        subst this
        rcases sz_val (m := m * (g : Int)) (k := k * g) hM0 hX s1 s2 with ⟨q, -⟩ | ⟨-, q⟩ | ⟨q, -⟩
        · rw [he] at q; grind
        · rcases h1 with h1 | h1
          · omega
          · exact h1 q
        · rw [he] at q; grind
      · rw [s3] at lo hi he
        obtain ⟨m1, m2⟩ := szv_mid s
        have : low = s := by
          rcases Nat.lt_trichotomy low s with h | h | h
          · have h5 := hi (by omega)
            have h6 := szv_mono (show low + 1 ≤ s by omega)
            grind
          · exact h
          · have h5 := lo (by omega)
            have h6 := szv_mono (show s + 1 ≤ low by omega)
            grind
        subst this
        rcases mid_val (m := m * (g : Int)) (k := k * g) (s := low) hM0 hX with ⟨q, -⟩ | ⟨-, q⟩ | ⟨q, -⟩
        · rw [he] at q; grind
        · exact h2 s1 q
        · rw [he] at q; grind
end Go.Proofs.YtabdmnjdmnnejaaDoor

/- Sizes as bare numbers; the sum of two beside each other. Conditions: none. -/
namespace Go.Proofs.YtabdmnjdmnnejaaDoor
set_option maxRecDepth 100000
set_option linter.unusedVariables false

theorem bare_top {n' : Bool} {B : Nat} {EB : Int} (e : bareD ⟨false, sigF 9218868437227405312, unitE 9218868437227405312⟩ = ⟨n', B, EB⟩) : n' = false ∧ B = 1 ∧ EB = 1024 := by
  have e1 : sigF 9218868437227405312 = 4503599627370496 := by decide
  have e2 : unitE 9218868437227405312 = 972 := by decide
  rw [e1, e2, bareD_pos (by decide)] at e
  have hl : low2 4503599627370496 = 52 := low2_uniq (k := 52) (m := 0) (by decide)
  dsimp only at e
  rw [hl] at e
  injection e with e0 e3 e4
  exact ⟨e0.symm, e3.symm, e4.symm⟩
theorem bare_size {s B : Nat} {EB : Int} {n' : Bool} (h1 : 1 ≤ s) (h2 : s ≤ 9218868437227405312) (e : bareD ⟨false, sigF s, unitE s⟩ = ⟨n', B, EB⟩) :
    n' = false ∧ B % 2 = 1 ∧ bitN B ≤ 53 ∧ EB = unitE s + (low2 (sigF s) : Nat) ∧ B * 2 ^ low2 (sigF s) = sigF s ∧ low2 (sigF s) ≤ 52 := by
  have hF0 := sigF_pos (show 0 < s by omega)
  have hu1 := unitE_ge s; have hu2 := unitE_le h2
  have hb53 : bitN (sigF s) ≤ 53 := bitN_le.2 (sigF_lt s)
  obtain ⟨ho, hn, -⟩ := bare_szv h1 h2 e
  have hb := bareD_bits e
  have hlt := low2_lt hF0
  rw [bareD_pos hF0] at e
  dsimp only at e
  obtain ⟨a, ha⟩ := low2_eq hF0
  have hq := odd_eq ha
  have hc : cutE (unitE s) = unitE s := by unfold cutE; omega
  injection e with _ e3 e4
  rw [hc] at e4
  refine ⟨hn, ho, by omega, e4.symm, ?_, by omega⟩
  rw [← e3, hq, Nat.mul_comm]; exact ha.symm
theorem mid_sum {s B1 B2 : Nat} {E1 E2 : Int} {n1 n2 : Bool} (h1 : 1 ≤ s) (h2 : s < 9218868437227405312) (e1 : bareD ⟨false, sigF s, unitE s⟩ = ⟨n1, B1, E1⟩) (e2 : bareD ⟨false, sigF (s + 1), unitE (s + 1)⟩ = ⟨n2, B2, E2⟩) :
    ∃ s1 s2 : Nat, min E1 E2 = unitE s ∧ E1 - unitE s = (s1 : Int) ∧ E2 - unitE s = (s2 : Int) ∧ B1 * 2 ^ s1 = sigF s ∧ B2 * 2 ^ s2 = sigF s + 1 ∧ s1 ≤ 60 ∧ s2 ≤ 60 := by
  obtain ⟨-, o1, -, a2, a3, a4⟩ := bare_size h1 (by omega) e1
  obtain ⟨-, o2, -, b2, b3, b4⟩ := bare_size (s := s + 1) (by omega) (by omega) e2
  rcases sz_next s with ⟨c1, c2⟩ | ⟨c1, c2, c3⟩
  · rw [c1] at b2 b3 b4
    rw [c2] at b2
    refine ⟨low2 (sigF s), low2 (sigF s + 1), ?_, by omega, by omega, a3, b3, by omega, by omega⟩
    by_cases hp : sigF s % 2 = 1
    · rw [low2_odd hp] at a2
      omega
    · rw [low2_odd (show (sigF s + 1) % 2 = 1 by omega)] at b2
      omega
  · rw [c2] at b2 b3 b4
    rw [c3] at b2
    have hl : low2 4503599627370496 = 52 := low2_uniq (k := 52) (m := 0) (by decide)
    have hp : low2 (sigF s) = 0 := low2_odd (by omega)
    rw [hp] at a2 a3 a4
    rw [hl] at b2 b3 b4
    refine ⟨0, 53, by omega, by omega, by omega, a3, ?_, by omega, by omega⟩
    rw [c1, show (53 : Nat) = 52 + 1 from rfl, Nat.pow_succ, ← Nat.mul_assoc, b3]
end Go.Proofs.YtabdmnjdmnnejaaDoor
