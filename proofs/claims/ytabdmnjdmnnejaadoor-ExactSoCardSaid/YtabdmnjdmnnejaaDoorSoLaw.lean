/- Powers told in other terms, plainly: what is told of x to the power n, asked with the exponent i divided by n, is what is told of x with i. -/
import Derived.Test.YtabdmnjdmnnejaaDoorEx7
import Derived.Test.YtabdmnjdmnnejaaDoorOnceLaw
namespace Go.Proofs.YtabdmnjdmnnejaaDoor
set_option maxRecDepth 100000
set_option linter.unusedVariables false

theorem PowR.uniq {M k : Nat} {E m : Int} {ok ok' : Bool} {P P' : Nat} {F F' : Int} (hk : 1 ≤ k) (h : PowR M E m (k : Int) ok P F) (h' : PowR M E m (k : Int) ok' P' F') : ok = ok' ∧ P = P' ∧ F = F' := by
  have ek : ((k : Nat) : Int).toNat = k := Int.toNat_natCast k
  rcases h with ⟨h0, rfl, rfl, rfl⟩ | ⟨h0, rfl, hb, -, r, f, h1, h2, h3⟩ | ⟨h0, rfl, rfl, rfl, hn⟩
  · subst h0
    obtain ⟨rfl, rfl, rfl⟩ := PowR_nought h'
    exact ⟨rfl, rfl, rfl⟩
  · rcases h' with ⟨g0, -⟩ | ⟨-, rfl, gb, -, r', f', g1, g2, g3⟩ | ⟨-, rfl, rfl, rfl, gn⟩
    · exact absurd g0 h0
    · rw [ek] at h1 g1
      obtain ⟨rfl, rfl⟩ := RootR.same hk h1 h2 g1 g2
      obtain ⟨rfl, rfl⟩ := h3.uniq g3
      exact ⟨rfl, rfl, rfl⟩
    · rw [gn r f P F h1 h2 h3] at hb
      exact absurd hb (by decide)
  · rcases h' with ⟨g0, -⟩ | ⟨-, rfl, gb, -, r', f', g1, g2, g3⟩ | ⟨-, rfl, rfl, rfl, gn⟩
    · exact absurd g0 h0
    · rw [hn r' f' P' F' g1 g2 g3] at gb
      exact absurd gb (by decide)
    · exact ⟨rfl, rfl, rfl⟩
theorem toNat_mulNat {m : Int} {g : Nat} (h : 0 ≤ m) : (m * (g : Int)).toNat = m.toNat * g := by
  obtain ⟨n, rfl⟩ : ∃ n : Nat, m = n := ⟨m.toNat, by omega⟩
  rw [Int.toNat_natCast, ← Int.natCast_mul, Int.toNat_natCast]
theorem one_of_pow {X g : Nat} (hg : 1 ≤ g) (h : X ^ g = 1) : X = 1 := pow_inj (show 0 < g by omega) (by rw [h, Nat.one_pow])
theorem Raise.up {X g : Nat} {E m : Int} {P : Nat} {F : Int} (hg : 1 ≤ g) (h : Raise (X ^ g) (E * (g : Int)) m P F) : Raise X E (m * (g : Int)) P F := by
  refine ⟨by rw [h.1, Int.mul_assoc, Int.mul_comm (g : Int) m], ?_⟩
  rcases h.2 with ⟨h1, h2⟩ | ⟨h1, h2, h3⟩
  · exact .inl ⟨Int.mul_nonneg h1 (by omega), by rw [h2, toNat_mulNat h1, ← Nat.pow_mul, Nat.mul_comm]⟩
  · exact .inr ⟨Int.mul_neg_of_neg_of_pos h1 (by omega), one_of_pow hg h2, h3⟩
theorem Raise.down {X g : Nat} {E m : Int} {P : Nat} {F : Int} (hg : 1 ≤ g) (h : Raise X E (m * (g : Int)) P F) : Raise (X ^ g) (E * (g : Int)) m P F := by
  refine ⟨by rw [h.1, Int.mul_assoc, Int.mul_comm (g : Int) m], ?_⟩
  rcases h.2 with ⟨h1, h2⟩ | ⟨h1, h2, h3⟩
  · have hm : 0 ≤ m := by
      rcases Int.lt_or_le m 0 with h0 | h0
      · have := Int.mul_neg_of_neg_of_pos h0 (show (0 : Int) < (g : Int) by omega)
        omega
      · exact h0
    exact .inl ⟨hm, by rw [h2, toNat_mulNat hm, ← Nat.pow_mul, Nat.mul_comm]⟩
  · have hm : m < 0 := by
      rcases Int.lt_or_le m 0 with h0 | h0
      · exact h0
      · have := Int.mul_nonneg h0 (show (0 : Int) ≤ (g : Int) by omega)
        omega
    exact .inr ⟨hm, by rw [h2, Nat.one_pow], h3⟩
theorem PowR.terms {X k g : Nat} {E m : Int} {ok : Bool} {P : Nat} {F : Int} (hk : 1 ≤ k) (hg : 1 ≤ g) (h : PowR (X ^ (k * g)) (E * ((k * g : Nat) : Int)) m (k : Int) ok P F) : PowR X E (m * (g : Int)) ((1 : Nat) : Int) ok P F := by
  have ek : ((k : Nat) : Int).toNat = k := Int.toNat_natCast k
  have e1 : ((1 : Nat) : Int).toNat = 1 := rfl
  have hr : (X ^ g) ^ k = X ^ (k * g) := by rw [← Nat.pow_mul, Nat.mul_comm]
  have hf : E * (g : Int) * (k : Int) = E * ((k * g : Nat) : Int) := by rw [Int.natCast_mul, Int.mul_assoc, Int.mul_comm (g : Int)]
  rcases h with ⟨h0, rfl, rfl, rfl⟩ | ⟨h0, rfl, hb, hp, r, f, h1, h2, h3⟩ | ⟨h0, rfl, rfl, rfl, hn⟩
  · exact .inl ⟨by rw [h0, Int.zero_mul], rfl, rfl, rfl⟩
  · rw [ek] at h1
    obtain ⟨rfl, rfl⟩ := RootR.same hk hr hf h1 h2
    exact .inr (.inl ⟨Int.mul_ne_zero h0 (by omega), rfl, hb, hp, X, E, by rw [e1, Nat.pow_one], Int.mul_one E, h3.up hg⟩)
  · refine .inr (.inr ⟨Int.mul_ne_zero h0 (by omega), rfl, rfl, rfl, fun r f P F a b c => ?_⟩)
    rw [e1, Nat.pow_one] at a
    rw [show ((1 : Nat) : Int) = 1 from rfl, Int.mul_one] at b
    subst a; subst b
    exact hn (r ^ g) (f * (g : Int)) P F (by rw [ek]; exact hr) hf (c.down hg)
/-- The three that are asked agree. -/
theorem PowR.agree {X k g : Nat} {E m : Int} {ok ok' : Bool} {P P' : Nat} {F F' : Int} (hk : 1 ≤ k) (hg : 1 ≤ g) (h : PowR (X ^ (k * g)) (E * ((k * g : Nat) : Int)) m (k : Int) ok P F) (h' : PowR X E (m * (g : Int)) ((1 : Nat) : Int) ok' P' F') : ok = ok' ∧ P = P' ∧ F = F' :=
  (h.terms hk hg).uniq (Nat.le_refl 1) h'
end Go.Proofs.YtabdmnjdmnnejaaDoor
