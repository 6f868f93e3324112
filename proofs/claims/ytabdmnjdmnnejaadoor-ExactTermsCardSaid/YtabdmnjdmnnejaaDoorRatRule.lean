/- The order of dyads at any common exponent, of powers of both, of a greater one. Conditions: none. -/
import Derived.Test.YtabdmnjdmnnejaaDoorRatTurn
import Derived.Test.YtabdmnjdmnnejaaDoorDyC
namespace Go.Proofs.YtabdmnjdmnnejaaDoor
set_option maxRecDepth 100000

theorem cmpN_scale (a b k : Nat) : cmpN (a * 2 ^ k) (b * 2 ^ k) = cmpN a b := by
  have hp : 0 < 2 ^ k := Nat.pow_pos (by omega)
  rcases Nat.lt_trichotomy a b with h | h | h
  · rw [cmpN_lt h, cmpN_lt (Nat.mul_lt_mul_of_pos_right h hp)]
  · subst h; rw [cmpN_eq, cmpN_eq]
  · rw [cmpN_gt h, cmpN_gt (Nat.mul_lt_mul_of_pos_right h hp)]

/-- The size at an exponent that isn't above. -/
def at2 (M : Nat) (E L : Int) : Nat := M * 2 ^ (E - L).toNat
theorem cmpM_at {n n' : Bool} {A B : Nat} {Ea Eb L : Int} (ha : L ≤ Ea) (hb : L ≤ Eb) : cmpM ⟨n, A, Ea⟩ ⟨n', B, Eb⟩ = cmpN (at2 A Ea L) (at2 B Eb L) := by
  unfold cmpM at2
  simp only
  have e1 : (Ea - L).toNat = (Ea - min Ea Eb).toNat + (min Ea Eb - L).toNat := by omega
  have e2 : (Eb - L).toNat = (Eb - min Ea Eb).toNat + (min Ea Eb - L).toNat := by omega
  rw [e1, e2, Nat.pow_add, Nat.pow_add, ← Nat.mul_assoc, ← Nat.mul_assoc, cmpN_scale]

theorem at2_pow {M : Nat} {E L : Int} (h : L ≤ E) (t : Nat) : at2 (M ^ t) (E * t) (L * t) = at2 M E L ^ t := by
  unfold at2
  obtain ⟨s, hs⟩ : ∃ s : Nat, E - L = s := ⟨(E - L).toNat, (Int.toNat_of_nonneg (by omega)).symm⟩
  have e : (E * t - L * t).toNat = s * t := by
    rw [← Int.sub_mul, hs, ← Int.natCast_mul, Int.toNat_natCast]
  rw [e, hs, Int.toNat_natCast, Nat.mul_pow, ← Nat.pow_mul]

theorem at2_mul {P M : Nat} {Ep E L : Int} : at2 (P * M) (Ep + E) (Ep + L) = P * at2 M E L := by
  unfold at2
  rw [show Ep + E - (Ep + L) = E - L by omega, Nat.mul_assoc]

/-- Powers of both are to each other as both. -/
theorem cmpM_pow {n n' : Bool} {A B t : Nat} {Ea Eb : Int} (ht : 0 < t) : cmpM ⟨n, A ^ t, Ea * t⟩ ⟨n', B ^ t, Eb * t⟩ = cmpM ⟨n, A, Ea⟩ ⟨n', B, Eb⟩ := by
  have hL1 : min Ea Eb ≤ Ea := by omega
  have hL2 : min Ea Eb ≤ Eb := by omega
  rw [cmpM_at (L := min Ea Eb * t) (Int.mul_le_mul_of_nonneg_right hL1 (by omega)) (Int.mul_le_mul_of_nonneg_right hL2 (by omega)), at2_pow hL1, at2_pow hL2, cmpN_pow ht, ← cmpM_at hL1 hL2]

theorem cmpN_mono {x a b : Nat} (h : a ≤ b) : cmpN x b ≤ cmpN x a := by
  rcases Nat.lt_trichotomy x a with h1 | h1 | h1
  · rw [cmpN_lt h1, cmpN_lt (by omega)]; omega
  · rw [h1, cmpN_eq]
    rcases Nat.lt_or_ge a b with h2 | h2
    · rw [cmpN_lt h2]; omega
    · rw [show b = a by omega, cmpN_eq]; omega
  · rw [cmpN_gt h1]
    rcases Nat.lt_trichotomy x b with h2 | h2 | h2
    · rw [cmpN_lt h2]; omega
    · rw [h2, cmpN_eq]; omega
    · rw [cmpN_gt h2]; omega

theorem cmpM_mono {n n1 n2 : Bool} {X A B : Nat} {Ex Ea Eb L : Int} (ha : L ≤ Ea) (hb : L ≤ Eb) (h : at2 A Ea L ≤ at2 B Eb L) : cmpM ⟨n, X, Ex⟩ ⟨n2, B, Eb⟩ ≤ cmpM ⟨n, X, Ex⟩ ⟨n1, A, Ea⟩ := by
  have e1 : at2 A Ea (min Ex L) = at2 A Ea L * 2 ^ (L - min Ex L).toNat := by
    unfold at2; rw [Nat.mul_assoc, ← Nat.pow_add]; congr 2; omega
  have e2 : at2 B Eb (min Ex L) = at2 B Eb L * 2 ^ (L - min Ex L).toNat := by
    unfold at2; rw [Nat.mul_assoc, ← Nat.pow_add]; congr 2; omega
  rw [cmpM_at (L := min Ex L) (by omega) (by omega), cmpM_at (L := min Ex L) (by omega) (by omega)]
  exact cmpN_mono (by rw [e1, e2]; exact Nat.mul_le_mul_right _ h)

theorem cmpM_self {n n' : Bool} {A : Nat} {E : Int} : cmpM ⟨n, A, E⟩ ⟨n', A, E⟩ = 0 := by
  rw [cmpM_at (Int.le_refl _) (Int.le_refl _), cmpN_eq]

/-- Both exponents times one number: the answer is the same. -/
theorem rule_times {M1 M2 k1 k2 K t : Nat} {E1 E2 i i2 c d : Int} (ht : 0 < t) (hi : i.natAbs = k1) (hi2 : i2 = i * t) (hk2 : i2.natAbs = k2)
    (hc1 : 0 ≤ i → cmpM ⟨false, M1 ^ k1, E1 * k1⟩ ⟨false, M2 ^ K, E2 * K⟩ = c) (hc2 : i < 0 → cmpM ⟨false, 1, 0⟩ ⟨false, M1 ^ k1 * M2 ^ K, E1 * k1 + E2 * K⟩ = c)
    (hd1 : 0 ≤ i2 → cmpM ⟨false, M1 ^ k2, E1 * k2⟩ ⟨false, M2 ^ (K * t), E2 * (K * t : Nat)⟩ = d) (hd2 : i2 < 0 → cmpM ⟨false, 1, 0⟩ ⟨false, M1 ^ k2 * M2 ^ (K * t), E1 * k2 + E2 * (K * t : Nat)⟩ = d) : c = d := by
  have ek : k2 = k1 * t := by rw [← hk2, hi2, Int.natAbs_mul, Int.natAbs_natCast, hi]
  subst ek
  have p1 : M1 ^ (k1 * t) = (M1 ^ k1) ^ t := Nat.pow_mul _ _ _
  have p2 : M2 ^ (K * t) = (M2 ^ K) ^ t := Nat.pow_mul _ _ _
  have p3 : E1 * ((k1 * t : Nat) : Int) = (E1 * k1) * t := by rw [Int.natCast_mul, Int.mul_assoc]
  have p4 : E2 * ((K * t : Nat) : Int) = (E2 * K) * t := by rw [Int.natCast_mul, Int.mul_assoc]
  rw [p1, p2, p3, p4] at hd1 hd2
  by_cases h0 : 0 ≤ i
  · rw [← hc1 h0, ← hd1 (by rw [hi2]; exact Int.mul_nonneg h0 (by omega)), cmpM_pow ht]
  · have hn : i2 < 0 := by rw [hi2]; exact Int.mul_neg_of_neg_of_pos (by omega) (by omega)
    rw [← hc2 (by omega), ← hd2 hn, ← Nat.mul_pow, ← Int.add_mul]
    have := cmpM_pow (n := false) (n' := false) (A := 1) (B := M1 ^ k1 * M2 ^ K) (Ea := 0) (Eb := E1 * k1 + E2 * K) ht
    rw [Nat.one_pow, Int.zero_mul] at this
    exact this.symm

/-- Of a greater b it isn't greater. -/
theorem rule_more {M1 M2 G k1 K : Nat} {E1 E2 Eg L i c u : Int} (hb : L ≤ E2) (hg : L ≤ Eg) (h : at2 M2 E2 L ≤ at2 G Eg L)
    (hc1 : 0 ≤ i → cmpM ⟨false, M1 ^ k1, E1 * k1⟩ ⟨false, M2 ^ K, E2 * K⟩ = c) (hc2 : i < 0 → cmpM ⟨false, 1, 0⟩ ⟨false, M1 ^ k1 * M2 ^ K, E1 * k1 + E2 * K⟩ = c)
    (hd1 : 0 ≤ i → cmpM ⟨false, M1 ^ k1, E1 * k1⟩ ⟨false, G ^ K, Eg * K⟩ = u) (hd2 : i < 0 → cmpM ⟨false, 1, 0⟩ ⟨false, M1 ^ k1 * G ^ K, E1 * k1 + Eg * K⟩ = u) : u ≤ c := by
  have hp : at2 (M2 ^ K) (E2 * K) (L * K) ≤ at2 (G ^ K) (Eg * K) (L * K) := by
    rw [at2_pow hb, at2_pow hg]; exact Nat.pow_le_pow_left h K
  have b1 : L * K ≤ E2 * K := Int.mul_le_mul_of_nonneg_right hb (by omega)
  have b2 : L * K ≤ Eg * K := Int.mul_le_mul_of_nonneg_right hg (by omega)
  by_cases h0 : 0 ≤ i
  · rw [← hc1 h0, ← hd1 h0]
    exact cmpM_mono b1 b2 hp
  · rw [← hc2 (by omega), ← hd2 (by omega)]
    refine cmpM_mono (L := E1 * k1 + L * K) (by omega) (by omega) ?_
    rw [at2_mul, at2_mul]
    exact Nat.mul_le_mul_left _ hp

/-- The bare one has the same size. -/
theorem bare_at {n n' : Bool} {M G : Nat} {E Eg : Int} (h : bareD ⟨n, M, E⟩ = ⟨n', G, Eg⟩) (h0 : M ≠ 0) (h1 : -2147483648 ≤ E) (h2 : E ≤ 2147483648) : n = n' ∧ G % 2 = 1 ∧ E ≤ Eg ∧ at2 G Eg E = M := by
  rw [bareD_pos (show (⟨n, M, E⟩ : Dn).m ≠ 0 from h0)] at h
  injection h with z1 z2 z3
  obtain ⟨k, hk⟩ := low2_eq h0
  have hc : cutE E = E := by unfold cutE; omega
  simp only at z2 z3
  rw [hc] at z3
  refine ⟨z1, ?_, by omega, ?_⟩
  · rw [← z2, odd_eq hk]; omega
  · unfold at2
    rw [show (Eg - E).toNat = low2 M by omega, ← z2]
    have := odd_eq hk
    rw [this, Nat.mul_comm]; exact hk.symm
end Go.Proofs.YtabdmnjdmnnejaaDoor
