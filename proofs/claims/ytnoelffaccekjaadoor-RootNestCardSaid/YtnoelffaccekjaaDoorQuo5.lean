/- quo.guess by its contract: what it tells isn't too small. Conditions: the part's top limb isn't above the divisor's. -/
import Derived.Test.YtnoelffaccekjaaDoorQuo4
import Derived.BigQuiet
import Derived.Deep.QuietTactic
namespace Go.Proofs.YtnoelffaccekjaaDoor
open Go.RowKit

/-- The loop's relation in guess: T the part's upper two limbs, lw the third. -/
structure GuRel (T lw top next q r : Nat) : Prop where
  eq : q * top + r = T
  up : T * BB + lw < (q + 1) * (top * BB + next)
  ql : q < BB
  rl : r < BB

theorem GuRel.down {T lw top next q r : Nat} (h : GuRel T lw top next q r) (hn : BB * r + lw < q * next) : ∃ p, p < q ∧ (q : Int) - 1 = (p : Int) ∧ p * top + (r + top) = T ∧ T * BB + lw < (p + 1) * (top * BB + next) ∧ p < BB := by
  have hU := half_dn h.eq hn
  have hq0 : q ≠ 0 := fun h0 => by rw [h0, Nat.zero_mul] at hn; exact Nat.not_lt_zero _ hn
  obtain ⟨p, rfl⟩ : ∃ p, q = p + 1 := ⟨q - 1, by omega⟩
  have e := h.eq
  rw [Nat.add_mul] at e
  exact ⟨p, by omega, by omega, by omega, hU, by have := h.ql; omega⟩

theorem mul_split (q n : Nat) : mLo q n + BB * mHi q n = q * n := Nat.mod_add_div _ _

theorem above_hi {q n r lw : Nat} (hlw : lw < BB) (h : r < mHi q n) : BB * r + lw < q * n := by
  rw [← mul_split q n]
  have := Nat.mul_le_mul_left BB (show r + 1 ≤ mHi q n from h)
  rw [Nat.mul_add] at this; omega
theorem above_lo {q n r lw : Nat} (h : r = mHi q n) (h2 : lw < mLo q n) : BB * r + lw < q * n := by
  rw [← mul_split q n, h]; omega

/-- What guess tells isn't too small. -/
def Guessed (P : List Nat) (top next g : Nat) : Prop :=
  g < BB ∧ ((P.getD (P.length - 1) 0 * BB + P.getD (P.length - 2) 0) * BB + P.getD (P.length - 3) 0 < (g + 1) * (top * BB + next) ∨ g + 1 = BB)

set_option maxHeartbeats 2000000 in
theorem guess_any {w : World} {v : Value} {P : List Nat} {top next : Nat} (hP : RdN w v P) (hd : Dig BB P) (hlen : 3 ≤ P.length) (hl2 : P.length ≤ 100000) (ht : 0 < top) (htb : top < BB) (hnb : next < BB) (htop : P.getD (P.length - 1) 0 ≤ top) :
    Calls Tryd.prog 59 #[v, L64 top, L64 next] w (fun e w' => ∃ g, e = .returned (L64 g) ∧ Guessed P top next g ∧ Below w.heap.size w w') := by
  obtain ⟨a, c, rfl, h2, h3, h4, hc⟩ := hP.view
  unfold Guessed
  obtain ⟨n, hn⟩ : ∃ n, P.length = n + 3 := ⟨P.length - 3, by omega⟩
  have HC := Lib.hid hc; clear hc
  obtain ⟨g, of, rfl, hg, c1⟩ := HC.out (n + 2) (by omega)
  obtain ⟨g', of', e, hg', c2⟩ := HC.out (n + 1) (by omega)
  obtain ⟨rfl, rfl⟩ : g = g' ∧ of = of' := by simpa using e
  obtain ⟨g', of', e, hg', c3⟩ := HC.out n (by omega)
  obtain ⟨rfl, rfl⟩ : g = g' ∧ of = of' := by simpa using e
  rw [← List.getD_eq_getElem?_getD] at c1 c2 c3
  have b1 := hd.getD BB_pos (n + 2); have b2 := hd.getD BB_pos (n + 1); have b3 := hd.getD BB_pos n
  have hx1 : P.getD (P.length - 1) 0 = P.getD (n + 2) 0 := by rw [hn]; rfl
  have hx2 : P.getD (P.length - 2) 0 = P.getD (n + 1) 0 := by rw [hn]; rfl
  have hx3 : P.getD (P.length - 3) 0 = P.getD n 0 := by rw [hn]; rfl
  rw [hx1, hx2, hx3]
  rw [hx1] at htop
  clear hx1 hx2 hx3 HC hP hd e hg' hlen
  rw [hn] at hl2 h2 ⊢
  generalize P.getD (n + 2) 0 = x1 at *
  generalize P.getD (n + 1) 0 = x2 at *
  generalize P.getD n 0 = x3 at *
  clear hn P
  by_cases hbig : x1 = top
  · subst hbig
    go_enter Tryd.func59, Tryd.ntmps59
    go_wp2
    go_ret
    exact ⟨18446744073709551615, rfl, ⟨by decide, .inr rfl⟩, Below.refl _ _⟩
  · have hlt : x1 < top := by omega
    have htop64 : top < 18446744073709551616 := htb
    have HD := Lib.hid (fun w => div_any (w := w) (l := x2) hlt htop64 b2)
    have hq := quo_small hlt b2
    have e0 := Nat.mod_add_div (x1 * BB + x2) top
    have hst := half_start (d0 := next) b3 ht (u := x1 * BB + x2)
    have hrl := Nat.mod_lt (x1 * BB + x2) ht
    rw [Nat.mul_comm top] at e0
    have HS := Lib.hid (show GuRel (x1 * BB + x2) x3 top next ((x1 * BB + x2) / top) ((x1 * BB + x2) % top) from ⟨by omega, hst, hq, by omega⟩)
    generalize (x1 * BB + x2) / top = q at *
    generalize (x1 * BB + x2) % top = r at *
    generalize x1 * BB + x2 = T at *
    clear hst e0 hq hrl
    go_enter Tryd.func59, Tryd.ntmps59
    go_wp2_with (go_quiet ((go_at_call 56; refine Calls.quiet_of (HD.out _))))
    go_loopw [8, 9] (fun q r wr => ∃ (q' r' d : Nat), q = L64 q' ∧ r = L64 r' ∧ GuRel T x3 top next q' r' ∧ wr = w.drewN d) (fun q _ _ => (intOf q).toNat)
    case atStart => exact ⟨q, r, nq, rfl, rfl, HS.out, rfl⟩
    case round =>
      clear HS HD
      obtain ⟨q, r, d, rfl, rfl, hR, rfl⟩ := hrel
      have HR := Lib.hid hR
      have hql := hR.ql; have hrl := hR.rl
      clear hR
      have c3' : (w.drewN d).cell? ⟨g, of + n, none⟩ = some (L64 x3) := c3
      have HB := Lib.hid (below_drewN (Below.refl w.heap.size w) d)
      have hsp := Lib.hid (mul_split q next)
      by_cases hstop : mHi q next < r ∨ (mHi q next = r ∧ mLo q next ≤ x3)
      · have HU := Lib.hid HR.out.up
        have htests : (decide (mHi q next < r) = true) ∨ (decide (mHi q next < r) = false ∧ (((mHi q next : Nat) : Int) == (r : Int)) = true ∧ decide (mLo q next ≤ x3) = true) := by
          rcases hstop with h | ⟨h, h2⟩
          · exact .inl (decide_eq_true (by omega))
          · exact .inr ⟨decide_eq_false (by omega), beq_iff_eq.2 (by omega), decide_eq_true (by omega)⟩
        clear hstop
        rcases htests with t1 | ⟨t1, t2, t3⟩
        all_goals
          go_wp2_with (go_at_call 53; ((with_reducible refine (mul_named hql hnb _).mono ?_)); rintro e w1 ⟨rfl, rfl⟩)
          go_ret
          exact ⟨q, rfl, ⟨HR.out.ql, .inl HU.out⟩, HB.out⟩
      · have habove : BB * r + x3 < q * next := by
          rcases Nat.lt_trichotomy (mHi q next) r with h | h | h
          · exact absurd (.inl h) hstop
          · exact above_lo h.symm (Nat.lt_of_not_le fun h2 => hstop (.inr ⟨h, h2⟩))
          · exact above_hi b3 h
        obtain ⟨p, hpq, hpI, he, hU, hpB⟩ := HR.out.down habove
        have HE := Lib.hid (And.intro he hU); have HPB := Lib.hid hpB; have HPQ := Lib.hid hpq
        have hW : IntKind.u64.wrap ((q : Int) - 1) = (p : Int) := by
          have : p < 18446744073709551616 := hpB
          rw [hpI, IntKind.wrap_u64]; omega
        clear hpI
        have htests : (decide (mHi q next < r) = false ∧ (((mHi q next : Nat) : Int) == (r : Int)) = false) ∨ (decide (mHi q next < r) = false ∧ (((mHi q next : Nat) : Int) == (r : Int)) = true ∧ decide (mLo q next ≤ x3) = false) := by
          by_cases h : mHi q next = r
          · exact .inr ⟨decide_eq_false (by omega), beq_iff_eq.2 (by omega), decide_eq_false (fun h2 => hstop (.inr ⟨h, by omega⟩))⟩
          · exact .inl ⟨decide_eq_false (fun h2 => hstop (.inl (by omega))), beq_eq_false_iff_ne.2 (by omega)⟩
        clear hstop habove he hU hpB hpq
        by_cases hov : BB ≤ r + top
        · have dov : decide (0 < sHi r top) = true := decide_eq_true (Nat.div_pos hov BB_pos)
          clear hov
          rcases htests with ⟨t1, t2⟩ | ⟨t1, t2, t3⟩
          all_goals
            go_wp2_with (first
              | (go_at_call 53; ((with_reducible refine (mul_named hql hnb _).mono ?_)); rintro e w1 ⟨rfl, rfl⟩)
              | simp only [run_add0])
            go_ret
            exact ⟨p, rfl, ⟨HPB.out, .inl HE.out.2⟩, HB.out⟩
        · have hs1 : sHi r top = 0 := Nat.div_eq_of_lt (by omega)
          have hs2 : sLo r top = r + top := Nat.mod_eq_of_lt (by omega)
          have HN := Lib.hid (⟨HE.out.1, HE.out.2, HPB.out, by omega⟩ : GuRel T x3 top next p (r + top))
          rw [← hs2] at HN
          have HS2 := Lib.hid hs2
          clear hov hs2
          rcases htests with ⟨t1, t2⟩ | ⟨t1, t2, t3⟩
          all_goals
            go_wp2_with (first
              | (go_at_call 53; ((with_reducible refine (mul_named hql hnb _).mono ?_)); rintro e w1 ⟨rfl, rfl⟩)
              | simp only [run_add0])
            go_round
            case rel => exact ⟨p, sLo r top, d, rfl, rfl, HN.out, rfl⟩
            case measure => simp [intOf]; exact HPQ.out
end Go.Proofs.YtnoelffaccekjaaDoor
