/- quo.Div and quo.Up by their contracts. Conditions: the lists are short, the limbs are limbs, math/bits' table stands in its variable. -/
import Derived.Test.YtegpfmfobeigfaaDoorQuo14
import Derived.Test.YtegpfmfobeigfaaDoorCmpA
import Derived.Test.YtegpfmfobeigfaaDoorQuoC
namespace Go.Proofs.YtegpfmfobeigfaaDoor
set_option maxRecDepth 100000
open Go.RowKit

/-- What quo.Div tells. -/
def divR (A B : Nat) : Nat × Nat × Int := if B = 0 then (0, 0, 1) else (A / B, A % B, 0)
def TwoE (w : World) (r : Nat × Nat × Int) (e : Ending) (w' : World) : Prop :=
  ∃ v u, e = .returned (.tuple #[v, u, .int .i64 r.2.2]) ∧ RdN w' v (digs BB r.1) ∧ RdN w' u (digs BB r.2.1) ∧ Below w.heap.size w w'

theorem digs_one {B : Nat} (h : (digs BB B).length = 1) : digs BB B = [B] := by
  obtain ⟨x, hx⟩ := List.length_eq_one_iff.1 h
  have e := val_digs BB_two B
  rw [hx, val_one] at e
  rw [hx, e]

theorem digs_top {B : Nat} (h : B ≠ 0) : (digs BB B).getD ((digs BB B).length - 1) 0 ≠ 0 := by
  intro h0
  have hl : 0 < (digs BB B).length := List.length_pos_iff.2 (fun e => h ((digs_nil_iff BB_two B).1 e))
  have h1 := digs_low BB_two B ((digs BB B).length - 1) (by omega)
  have e := val_top1 (B := BB) (P := digs BB B) (n := (digs BB B).length - 1) (by omega)
  rw [h0, Nat.mul_zero, Nat.add_zero, val_digs BB_two] at e
  have h2 := val_lt ((dig_digs BB_two B).take ((digs BB B).length - 1))
  rw [List.length_take, Nat.min_eq_left (by omega)] at h2
  omega

theorem below_cell {w w' : World} {p : Addr} {u : Value} (h : Below w.heap.size w w') (hc : w.cell? p = some u) : w'.cell? p = some u :=
  (Fr.of_below (S := fun _ => False) h).at_cell hc (fun h => h)

theorem RdN.view1 {w : World} {v : Value} {x : Nat} (h : RdN w v [x]) : ∃ g off k, v = .slice (some ⟨g, off, none⟩) 1 k ∧ 1 ≤ k ∧ k ≤ 9223372036854775807 ∧ w.cell? ⟨g, off, none⟩ = some (L64 x) := by
  obtain ⟨a, c, rfl, h2, h3, -, h5⟩ := h.view
  obtain ⟨g, off, rfl, -, hc⟩ := h5 0 (Nat.lt_succ_self 0)
  exact ⟨g, off, c, rfl, h2, h3, hc⟩

end Go.Proofs.YtegpfmfobeigfaaDoor

/- quo.Up and quo.Gcd by their contracts. Conditions: the lists are short, the limbs are limbs, math/bits' table stands in its variable. -/
namespace Go.Proofs.YtegpfmfobeigfaaDoor
set_option maxRecDepth 100000
open Go.RowKit

/-- What quo.Up tells. -/
def upR (A B : Nat) : Nat × Int := if B = 0 then (0, 1) else (A / B + (if A % B = 0 then 0 else 1), 0)

theorem digs_mono {a b : Nat} (h : a ≤ b) : (digs BB a).length ≤ (digs BB b).length :=
  (digs_length_le BB_two _ _).2 (Nat.lt_of_le_of_lt h ((digs_length_le BB_two _ _).1 (Nat.le_refl _)))
theorem div_len {A B k : Nat} (h : (digs BB A).length ≤ k) : (digs BB (A / B)).length ≤ k :=
  (digs_length_le BB_two _ _).2 (Nat.lt_of_le_of_lt (Nat.div_le_self _ _) ((digs_length_le BB_two _ _).1 h))

/-- A slice reads as one list alone. -/
theorem RdN.inj {w : World} {v : Value} {l m : List Nat} (h : RdN w v l) (k : RdN w v m) : l = m := by
  obtain ⟨a, c, rfl, -, -, -, h5⟩ := h.view
  obtain ⟨a', c', e, -, -, -, k5⟩ := k.view
  injection e with e1 e2 e3
  subst e1
  apply List.ext_getElem e2
  intro i h1 h2
  obtain ⟨g, off, ea, -, hc⟩ := h5 i h1
  obtain ⟨g', off', ea', -, hc'⟩ := k5 i h2
  rw [ea] at ea'
  injection ea' with ea'
  injection ea' with e1 e4
  subst e1 e4
  rw [hc, List.getElem?_eq_getElem h1, List.getElem?_eq_getElem h2] at hc'
  injection hc' with hc'
  simp at hc'
  omega

/-- The number that a slice reads as. -/
noncomputable def numOf (w : World) (v : Value) : Nat := Classical.epsilon (fun y => RdN w v (digs BB y))
theorem numOf_eq {w : World} {v : Value} {y : Nat} (h : RdN w v (digs BB y)) : numOf w v = y :=
  digs_inj BB_two ((Classical.epsilon_spec (p := fun y => RdN w v (digs BB y)) ⟨y, h⟩).inj h)

end Go.Proofs.YtegpfmfobeigfaaDoor

/- Slices that read as a number, by its value alone: what nat.Sub and quo tell of them. Conditions: at most 40000 limbs; math/bits' table stands in its variable. -/
namespace Go.Proofs.YtegpfmfobeigfaaDoor
set_option maxRecDepth 100000
open Go.RowKit Go.ChangeShapes Go.WideShapes

theorem sub_n {w : World} {v u : Value} {A B C : Nat} (h : Num w v A) (k : Num w u B) (e : B + C = A) : Calls Tryd.prog 50 #[v, u] w (OneZ w C) := by
  obtain ⟨l, h1, h2, h3, rfl⟩ := h
  obtain ⟨m, k1, k2, k3, rfl⟩ := k
  have := sub_any h1 k1 h2 k2 (by omega) (by omega)
  unfold subR at this
  rw [if_neg (by omega), show val BB l - val BB m = C by omega] at this
  exact this
theorem sub_under {w : World} {v u : Value} {A B : Nat} (h : Num w v A) (k : Num w u B) (e : A < B) : Calls Tryd.prog 50 #[v, u] w (fun e w' => ∃ v, e = .returned (.tuple #[v, .int .i64 1]) ∧ RdN w' v (digs BB 0) ∧ Below w.heap.size w w') := by
  obtain ⟨l, h1, h2, h3, rfl⟩ := h
  obtain ⟨m, k1, k2, k3, rfl⟩ := k
  have := sub_any h1 k1 h2 k2 (by omega) (by omega)
  unfold subR at this
  rw [if_pos e] at this
  exact this
/-- Two numbers told, and errno 0. -/
def TwoZ (w : World) (q r : Nat) (e : Ending) (w' : World) : Prop := ∃ v u, e = .returned (.tuple #[v, u, .int .i64 0]) ∧ RdN w' v (digs BB q) ∧ RdN w' u (digs BB r) ∧ Below w.heap.size w w'
end Go.Proofs.YtegpfmfobeigfaaDoor

/- nat.Shl by its contract. Conditions: the list is short, the limbs are limbs. -/
namespace Go.Proofs.YtegpfmfobeigfaaDoor
set_option maxRecDepth 100000
open Go.RowKit

/-- What nat.Shl tells. -/
def shlR (A : Nat) (n : Int) : Nat × Int := if n < 0 then (0, 1) else if A = 0 then (0, 0) else if 65536 - (bitN A : Int) < n then (0, 2) else (A * 2 ^ n.toNat, 0)

theorem or_low' {c x s : Nat} (hs : s ≤ 64) (hc : c < 2 ^ s) : bits .or .u64 ((x * 2 ^ s % BB : Nat) : Int) (c : Int) = ((x * 2 ^ s % BB + c : Nat) : Int) ∧ x * 2 ^ s % BB + c < 18446744073709551616 := by
  obtain ⟨h1, h2⟩ := or_low (x := x) hs hc
  have h3 : c < 2 ^ 64 := Nat.lt_of_lt_of_le hc (Nat.pow_le_pow_right (by omega) hs)
  have h4 : x * 2 ^ s % BB < 2 ^ 64 := by rw [← BB_pow]; exact Nat.mod_lt _ BB_pos
  rw [(bits_nat .u64 64 (by decide) (fun n h0 h1 => by rw [IntKind.wrap_u64]; omega) c _ h3 h4).2] at h1
  rw [(bits_nat .u64 64 (by decide) (fun n h0 h1 => by rw [IntKind.wrap_u64]; omega) _ c h4 h3).2, Nat.or_comm]
  exact ⟨by rw [h1, Nat.add_comm], by omega⟩

/-- The limb at a place that may be below. -/
def limbZ (l : List Nat) (i : Int) : Nat := if i < 0 then 0 else l.getD i.toNat 0
theorem limbZ_nat (l : List Nat) (k : Nat) : limbZ l (k : Int) = l.getD k 0 := by unfold limbZ; rw [if_neg (by omega)]; rfl
theorem limbZ_neg (l : List Nat) {i : Int} (h : i < 0) : limbZ l i = 0 := by unfold limbZ; rw [if_pos h]
theorem limbZ_lt {l : List Nat} (hd : Dig BB l) (i : Int) : limbZ l i < BB := by
  unfold limbZ; split
  · decide
  · exact hd.getD BB_pos _

/-- One limb of a number that is shifted up. -/
theorem shl_limb {l : List Nat} (hd : Dig BB l) {n wh pt k : Nat} {j : Int} (hn : n = 64 * wh + pt) (hp : pt < 64) (hj : (k : Int) - (wh : Int) = j) :
    val BB l * 2 ^ n / BB ^ k % BB = limbZ l j * 2 ^ pt % BB + limbZ l (j - 1) / 2 ^ (64 - pt) ∧ limbZ l (j - 1) / 2 ^ (64 - pt) < 2 ^ pt := by
  have hPR : 2 ^ pt * 2 ^ (64 - pt) = BB := by rw [← Nat.pow_add, show pt + (64 - pt) = 64 by omega, BB_pow]
  have hP : 0 < 2 ^ pt := Nat.pow_pos (by omega)
  have hlt : limbZ l (j - 1) / 2 ^ (64 - pt) < 2 ^ pt := by
    rw [Nat.div_lt_iff_lt_mul (Nat.pow_pos (by omega)), hPR]; exact limbZ_lt hd _
  refine ⟨?_, hlt⟩
  have e0 : 2 ^ n = BB ^ wh * 2 ^ pt := by rw [hn, Nat.pow_add, Nat.pow_mul, BB_pow]
  by_cases h1 : k < wh
  · rw [limbZ_neg l (by omega), limbZ_neg l (by omega), Nat.zero_mul, Nat.zero_mod, Nat.zero_div]
    obtain ⟨d, rfl⟩ : ∃ d, wh = k + 1 + d := ⟨wh - k - 1, by omega⟩
    rw [e0, show val BB l * (BB ^ (k + 1 + d) * 2 ^ pt) = BB ^ k * (BB * (val BB l * BB ^ d * 2 ^ pt)) by
      rw [Nat.pow_add, Nat.pow_succ]; simp only [Nat.mul_assoc, Nat.mul_comm, Nat.mul_left_comm], Nat.mul_div_cancel_left _ (Nat.pow_pos BB_pos), Nat.mul_mod_right]
  · obtain ⟨i, rfl⟩ : ∃ i, k = wh + i := ⟨k - wh, by omega⟩
    obtain rfl : j = (i : Int) := by omega
    have e1 : val BB l * 2 ^ n / BB ^ (wh + i) = val BB l * 2 ^ pt / BB ^ i := by
      rw [e0, Nat.pow_add, show val BB l * (BB ^ wh * 2 ^ pt) = BB ^ wh * (val BB l * 2 ^ pt) by rw [Nat.mul_left_comm], Nat.mul_div_mul_left _ _ (Nat.pow_pos BB_pos)]
    rw [e1, limbZ_nat]
    by_cases h2 : i = 0
    · subst h2
      rw [limbZ_neg l (by omega), Nat.pow_zero, Nat.div_one, Nat.zero_div, Nat.add_zero]
      have := val_drop_any BB l 0
      rw [List.drop_zero] at this
      rw [this, Nat.add_mul, Nat.mul_assoc, Nat.add_mul_mod_self_left]
    · obtain ⟨i, rfl⟩ : ∃ t, i = t + 1 := ⟨i - 1, by omega⟩
      rw [show ((i + 1 : Nat) : Int) - 1 = (i : Int) by omega, limbZ_nat]
      by_cases h3 : pt = 0
      · subst h3
        rw [Nat.pow_zero, Nat.mul_one, Nat.mul_one, val_div BB_pos hd, val_drop_any, Nat.add_mul_mod_self_left]
        have hx := hd.getD BB_pos i
        rw [Nat.div_eq_of_lt (show l.getD i 0 < 2 ^ (64 - 0) by rw [Nat.sub_zero, ← BB_pow]; exact hx)]; rfl
      · have e2 : val BB l * 2 ^ pt / BB ^ (i + 1) = val BB l / 2 ^ (64 * i + (64 - pt)) := by
          have : BB ^ (i + 1) = 2 ^ (64 * i + (64 - pt)) * 2 ^ pt := by
            rw [Nat.pow_succ, ← hPR, Nat.pow_add, Nat.pow_mul, hPR, BB_pow, Nat.mul_assoc, ← Nat.pow_add, show 64 - pt + pt = 64 by omega]
          rw [this, Nat.mul_div_mul_right _ _ hP]
        have h4 := (shr_limb hd (n := 64 * i + (64 - pt)) (k := 0) rfl (by omega)).1
        rw [Nat.pow_zero, Nat.div_one, Nat.zero_add, show 64 - (64 - pt) = pt by omega] at h4
        rw [e2, h4, Nat.add_comm]

end Go.Proofs.YtegpfmfobeigfaaDoor

/- Slices that read as a number, by its value alone: Shl, Shr, Pow, Times. Conditions: at most 40000 limbs. -/
namespace Go.Proofs.YtegpfmfobeigfaaDoor
set_option maxRecDepth 100000
open Go.RowKit Go.ChangeShapes Go.WideShapes

theorem pow_n {w : World} {v : Value} {A K C : Nat} (h : Num w v A) (e : A ^ K = C) (hb : bitN C ≤ 65536) (hK : K ≤ 9223372036854775807) : Calls Tryd.prog 30 #[v, .int .i64 K] w (OneZ w C) := by
  obtain ⟨l, h1, h2, h3, rfl⟩ := h
  subst e
  have := pow_any (k := (K : Int)) h1 h2 (by omega) (by omega) (by omega)
  unfold powR at this
  rw [if_neg (by omega), Int.toNat_natCast, if_neg (by omega)] at this
  exact this
theorem times_n {w : World} {v : Value} {A n C : Nat} (h : Num w v A) (hn : n < BB) (e : A * n = C) (hs : bitN A + bitN n ≤ 65536) : Calls Tryd.prog 76 #[v, L64 n] w (OneZ w C) := by
  obtain ⟨l, h1, h2, h3, rfl⟩ := h
  subst e
  have := times_any h1 h2 (by omega) hn
  rw [mulR_small hs] at this
  exact this
theorem of_n {w : World} {n : Nat} (hn : n < BB) : Calls Tryd.prog 56 #[L64 n] w (One w (digs BB n)) := of_num hn
theorem of_1 {w : World} : Calls Tryd.prog 56 #[.int .u64 1] w (One w (digs BB 1)) := of_one
end Go.Proofs.YtegpfmfobeigfaaDoor
