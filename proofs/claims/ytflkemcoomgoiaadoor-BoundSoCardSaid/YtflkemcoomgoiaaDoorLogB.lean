/- logs.Log by its contract. Conditions: the numbers are short; math/bits' table stands in its variable. -/
import Derived.Test.YtflkemcoomgoiaaDoorLogA
namespace Go.Proofs.YtflkemcoomgoiaaDoor
set_option maxRecDepth 100000
open Go.RowKit Go.ChangeShapes Go.WideShapes
set_option linter.unusedVariables false

theorem Atanh_z {w : World} {v u : Value} {A B s : Nat} (h : Num w v A) (k : Num w u B) (hT : Tab w) (s1 : 8 ≤ s) (s2 : s ≤ 9000) (sA : bitN A ≤ 4096) (sB : bitN B ≤ 4096) (hB : 0 < B) (h3 : 3 * A ≤ B) :
    Calls Tryd.prog 83 #[v, u, .int .i64 (s : Int)] w fun e w' => ∃ vl vh L H, e = .returned (.tuple #[vl, vh, .int .i64 0]) ∧ RdN w' vl (digs BB L) ∧ RdN w' vh (digs BB H) ∧ AtOk A B s L H ∧ AtDet A B s L H ∧ Below w.heap.size w w' := by
  by_cases hA : A = 0
  · subst hA
    refine (Atanh_zero h k s1 s2 sB hB).mono ?_
    rintro e w' ⟨rfl, hb⟩
    exact ⟨_, _, 0, 0, rfl, RdN.nil0 _, RdN.nil0 _, atOk_zero (by omega), AtDet.zero, hb⟩
  · refine (Atanh_det h k hT s1 s2 sA sB hA hB h3).mono ?_
    rintro e w' ⟨vl, vh, L, H, rfl, h1, h2, ⟨h3, h5⟩, h4⟩
    exact ⟨vl, vh, L, H, rfl, h1, h2, h3, h5, h4⟩
/-- What is told of a logarithm, to the last unit. -/
def LogDet (d lo hi : Dn) (s : Nat) : Prop := ∃ L H L2 H2, AtDet (nearN d.m) (d.m + nearP d.m) s L H ∧ AtDet 1 3 s L2 H2 ∧
  addQ (bareD (endLo (decide (d.m < nearP d.m)) (L * 2) (H * 2) s)) (bareD (endLo (decide (nearE d.m d.e < 0)) ((L2 + L2) * (nearE d.m d.e).natAbs) ((H2 + H2) * (nearE d.m d.e).natAbs) s)) = (lo.neg, lo.m, lo.e, 0) ∧
  addQ (bareD (endHi (decide (d.m < nearP d.m)) (L * 2) (H * 2) s)) (bareD (endHi (decide (nearE d.m d.e < 0)) ((L2 + L2) * (nearE d.m d.e).natAbs) ((H2 + H2) * (nearE d.m d.e).natAbs) s)) = (hi.neg, hi.m, hi.e, 0)
theorem dn_eq {a b : Dn} {k : Int} (h : (a.neg, a.m, a.e, k) = (b.neg, b.m, b.e, k)) : a = b := by
  obtain ⟨a1, a2, a3⟩ := a
  obtain ⟨b1, b2, b3⟩ := b
  simp only [Prod.mk.injEq] at h
  obtain ⟨rfl, rfl, rfl, -⟩ := h
  rfl
theorem LogDet.uniq {d lo hi lo' hi' : Dn} {s : Nat} (h : LogDet d lo hi s) (k : LogDet d lo' hi' s) : lo = lo' ∧ hi = hi' := by
  obtain ⟨L, H, L2, H2, a1, a2, a3, a4⟩ := h
  obtain ⟨L', H', L2', H2', b1, b2, b3, b4⟩ := k
  obtain ⟨rfl, rfl⟩ := a1.uniq b1
  obtain ⟨rfl, rfl⟩ := a2.uniq b2
  exact ⟨dn_eq (a3.symm.trans b3), dn_eq (a4.symm.trans b4)⟩
theorem near_bits {M : Nat} (h : M ≠ 0) (sM : bitN M ≤ 4000) : bitN (nearN M) ≤ 4096 ∧ bitN (M + nearP M) ≤ 4096 := by
  obtain ⟨h1, h2⟩ := topn_le h
  have h3 := bitN_lt M
  have h4 : 2 ^ bitN M = 2 ^ (bitN M - 1) + 2 ^ (bitN M - 1) := by
    have : bitN M ≠ 0 := fun e => by rw [e] at h3; omega
    rw [show bitN M = bitN M - 1 + 1 by omega, Nat.pow_succ, Nat.add_sub_cancel]; omega
  have hb : ∀ x, x ≤ 4 * 2 ^ bitN M → bitN x ≤ 4096 := fun x hx => Nat.le_trans (bitN_le.2 (show x < 2 ^ (bitN M + 3) by rw [Nat.pow_add]; omega)) (by omega)
  constructor
  · refine hb _ ?_
    unfold nearN nearP
    (repeat' split) <;> omega
  · refine hb _ ?_
    unfold nearP
    split <;> omega
/-- A dyad of six cells, in its two halves. -/
theorem Blk.lo6 {w : World} {b : Nat} {x0 x1 x2 x3 x4 x5 : Value} (h : Blk w b #[x0, x1, x2, x3, x4, x5]) (y0 y1 y2 : Value) : Blk (((w.setCell ⟨b, 0, none⟩ y0).setCell ⟨b, 1, none⟩ y1).setCell ⟨b, 2, none⟩ y2) b #[y0, y1, y2, x3, x4, x5] := by
  obtain ⟨h1, T, h2⟩ := h
  exact ⟨by simpa [World.setCell] using h1, T, heap_setC (heap_setC (heap_setC h2 y0) y1) y2⟩
theorem Blk.hi6 {w : World} {b : Nat} {x0 x1 x2 x3 x4 x5 : Value} (h : Blk w b #[x0, x1, x2, x3, x4, x5]) (y3 y4 y5 : Value) : Blk (((w.setCell ⟨b, 3, none⟩ y3).setCell ⟨b, 4, none⟩ y4).setCell ⟨b, 5, none⟩ y5) b #[x0, x1, x2, y3, y4, y5] := by
  obtain ⟨h1, T, h2⟩ := h
  exact ⟨by simpa [World.setCell] using h1, T, heap_setC (heap_setC (heap_setC h2 y3) y4) y5⟩
theorem Blk.otherhi {w : World} {b b' : Nat} {c : Array Value} (h : Blk w b c) (hne : b ≠ b') (x y z : Value) : Blk (((w.setCell ⟨b', 3, none⟩ x).setCell ⟨b', 4, none⟩ y).setCell ⟨b', 5, none⟩ z) b c := by
  obtain ⟨h1, T, h2⟩ := h
  exact ⟨by simpa [World.setCell] using h1, T, heap_setO (heap_setO (heap_setO h2 x hne) y hne) z hne⟩
theorem below_sethi {D W : World} (h : Below D.heap.size D W) {b : Nat} (hb : D.heap.size ≤ b) (x y z : Value) : Below D.heap.size D (((W.setCell ⟨b, 3, none⟩ x).setCell ⟨b, 4, none⟩ y).setCell ⟨b, 5, none⟩ z) :=
  below_set (below_set (below_set h hb x) hb y) hb z
theorem RdN.hi6 {w : World} {v : Value} {l : List Nat} {b : Nat} {c : Array Value} (h : RdN w v l) (hB : Blk w b c) (hc : ∀ x ∈ c.toList, ∀ n : Nat, x ≠ L64 n) (x y z : Value) :
    RdN (((w.setCell ⟨b, 3, none⟩ x).setCell ⟨b, 4, none⟩ y).setCell ⟨b, 5, none⟩ z) v l := by
  have h2 := (h.away hB hc).keep (S := fun g => g = b) ((((Fr.refl (fun g => g = b) w).setCell (p := ⟨b, 3, none⟩) rfl x).setCell (p := ⟨b, 4, none⟩) rfl y).setCell (p := ⟨b, 5, none⟩) rfl z) (fun _ h => h)
  exact h2.mono (fun _ _ _ => trivial)

end Go.Proofs.YtflkemcoomgoiaaDoor

/- logs.Log refused, by its contract. Conditions: the numbers are short; math/bits' table stands in its variable. -/
namespace Go.Proofs.YtflkemcoomgoiaaDoor
set_option maxRecDepth 100000
open Go.RowKit Go.ChangeShapes Go.WideShapes
set_option linter.unusedVariables false

theorem nearOk_parts {d : Dn} {n' : Bool} {M' : Nat} {E' : Int} (q : bareD d = ⟨n', M', E'⟩) (h : nearOk d = true) : n' = false ∧ fitsE E' = true ∧ M' ≠ 0 ∧ bitN M' ≤ 4000 ∧ -1048576 ≤ topD ⟨n', M', E'⟩ ∧ topD ⟨n', M', E'⟩ ≤ 1048576 := by
  unfold nearOk at h
  rw [q] at h
  simp only [Bool.and_eq_true, decide_eq_true_eq, Bool.not_eq_true'] at h
  obtain ⟨⟨⟨⟨⟨h1, h2⟩, h3⟩, h4⟩, h5⟩, h6⟩ := h
  exact ⟨h2, h1, h3, h4, h5, h6⟩
end Go.Proofs.YtflkemcoomgoiaaDoor

/- Orders of dyads by their values; chapter 13's alive(). Conditions: the numbers are short; math/bits' table stands in its variable. -/
namespace Go.Proofs.YtflkemcoomgoiaaDoor
set_option maxRecDepth 100000
open Go.RowKit Go.ChangeShapes Go.WideShapes
set_option linter.unusedVariables false

/-- dyad.Cmp tells how the values stand. -/
theorem Cmp_v {w : World} {v u : Value} {n1 n2 : Bool} {m1 m2 : Nat} {e1 e2 : Int} (h : Num w v m1) (k : Num w u m2) (hT : Tab w) (s1 : bitN m1 ≤ 400000) (s2 : bitN m2 ≤ 400000) (r1 : -2147483648 ≤ e1) (r2 : e1 ≤ 2147483648) (r3 : -2147483648 ≤ e2) (r4 : e2 ≤ 2147483648) :
    Calls Tryd.prog 17 #[.agg #[.bool n1, v, .int .i64 e1], .agg #[.bool n2, u, .int .i64 e2]] w (fun e w' => ∃ c : Int, e = .returned (.int .i64 c) ∧ ((qv ⟨n1, m1, e1⟩ < qv ⟨n2, m2, e2⟩ ∧ c = -1) ∨ (qv ⟨n1, m1, e1⟩ = qv ⟨n2, m2, e2⟩ ∧ c = 0) ∨ (qv ⟨n2, m2, e2⟩ < qv ⟨n1, m1, e1⟩ ∧ c = 1)) ∧ Below w.heap.size w w') := by
  refine (Cmp_n h k hT (by omega) (by omega) (by omega) (by omega) rfl rfl s1 s2 rfl).mono ?_
  rintro e w' ⟨rfl, hb⟩
  refine ⟨_, rfl, ?_, hb⟩
  have := cmpD_val (bareD ⟨n1, m1, e1⟩) (bareD ⟨n2, m2, e2⟩)
  rw [qv_bare r1 r2, qv_bare r3 r4] at this
  exact this
theorem Cmp_leq {w : World} {v u : Value} {n1 n2 : Bool} {m1 m2 : Nat} {e1 e2 : Int} (h : Num w v m1) (k : Num w u m2) (hT : Tab w) (s1 : bitN m1 ≤ 400000) (s2 : bitN m2 ≤ 400000) (r1 : -2147483648 ≤ e1) (r2 : e1 ≤ 2147483648) (r3 : -2147483648 ≤ e2) (r4 : e2 ≤ 2147483648) (hle : qv ⟨n1, m1, e1⟩ ≤ qv ⟨n2, m2, e2⟩) :
    Calls Tryd.prog 17 #[.agg #[.bool n1, v, .int .i64 e1], .agg #[.bool n2, u, .int .i64 e2]] w (fun e w' => ∃ c : Int, e = .returned (.int .i64 c) ∧ decide (c ≤ 0) = true ∧ decide (0 < c) = false ∧ Below w.heap.size w w') := by
  refine (Cmp_v h k hT s1 s2 r1 r2 r3 r4).mono ?_
  rintro e w' ⟨c, rfl, hc, hb⟩
  have : c ≤ 0 := by
    rcases hc with ⟨h1, h2⟩ | ⟨h1, h2⟩ | ⟨h1, h2⟩
    · omega
    · omega
    · exfalso; grind
  exact ⟨c, rfl, decide_eq_true this, decide_eq_false (by omega), hb⟩
theorem Cmp_eq {w : World} {v u : Value} {n1 n2 : Bool} {m1 m2 : Nat} {e1 e2 : Int} (h : Num w v m1) (k : Num w u m2) (hT : Tab w) (s1 : bitN m1 ≤ 400000) (s2 : bitN m2 ≤ 400000) (r1 : -2147483648 ≤ e1) (r2 : e1 ≤ 2147483648) (r3 : -2147483648 ≤ e2) (r4 : e2 ≤ 2147483648) (hle : qv ⟨n1, m1, e1⟩ = qv ⟨n2, m2, e2⟩) :
    Calls Tryd.prog 17 #[.agg #[.bool n1, v, .int .i64 e1], .agg #[.bool n2, u, .int .i64 e2]] w (fun e w' => e = .returned (.int .i64 0) ∧ Below w.heap.size w w') := by
  refine (Cmp_v h k hT s1 s2 r1 r2 r3 r4).mono ?_
  rintro e w' ⟨c, rfl, hc, hb⟩
  have : c = 0 := by
    rcases hc with ⟨h1, h2⟩ | ⟨h1, h2⟩ | ⟨h1, h2⟩
    · exfalso; grind
    · exact h2
    · exfalso; grind
  subst this
  exact ⟨rfl, hb⟩
theorem LogOk.size {d : Dn} {n1 n2 : Bool} {m1 m2 s : Nat} {e1 e2 : Int} (o : LogOk d ⟨n1, m1, e1⟩ ⟨n2, m2, e2⟩ s) : bitN m1 ≤ 20000 ∧ bitN m2 ≤ 20000 ∧ -10000 ≤ e1 ∧ e1 ≤ 10000 ∧ -10000 ≤ e2 ∧ e2 ≤ 10000 := by
  have a := o.mLo.bits
  have b := o.mHi.bits
  obtain ⟨a1, a2, a3⟩ := o.mLo
  obtain ⟨b1, b2, b3⟩ := o.mHi
  dsimp only at *
  omega
/-- The logarithm of 2 is ln 2, to the last unit. -/
theorem log_two {lo hi : Dn} {s L2 H2 : Nat} (s1 : 8 ≤ s) (s2 : s ≤ 9000) (k : LogDet ⟨false, 1, 1⟩ lo hi s) (o : AtOk 1 3 s L2 H2) (od : AtDet 1 3 s L2 H2) : qv lo = ((L2 + L2 : Nat) : Rat) * pw (-(s : Int)) ∧ qv hi = ((H2 + H2 : Nat) : Rat) * pw (-(s : Int)) := by
  obtain ⟨L, H, L', H', a1, a2, a3, a4⟩ := k
  obtain ⟨rfl, rfl⟩ := a2.uniq od
  have e0 : nearN 1 = 0 := by decide
  have e1 : nearE 1 1 = 1 := by decide
  have e2 : nearP 1 = 1 := by decide
  obtain ⟨rfl, rfl⟩ := a1.uniq (by show AtDet (nearN 1) _ s 0 0; rw [e0]; exact AtDet.zero)
  dsimp only at a3 a4
  rw [e1, e2] at a3 a4
  have b1 : bitN (0 * 2) ≤ s + 60 := by rw [Nat.zero_mul, bitN_zero]; omega
  have b2 : bitN ((H' + H') * (1 : Int).natAbs) ≤ s + 60 := by
    have := at_size o s2
    rw [show (H' + H') * (1 : Int).natAbs = H' * 2 by show (H' + H') * 1 = _; omega]
    omega
  have le2 : (L' + L') * (1 : Int).natAbs ≤ (H' + H') * (1 : Int).natAbs := Nat.mul_le_mul_right _ (by have := o.le; omega)
  obtain ⟨x1, -, -, -, x1v⟩ := (endLo_mid (neg := decide (1 < 1)) (s := s) (Nat.le_refl (0 * 2)) s2 b1).bare (by omega) (by omega)
  obtain ⟨x2, -, -, -, x2v⟩ := (endHi_mid (neg := decide (1 < 1)) (s := s) (Nat.le_refl (0 * 2)) s2 b1).bare (by omega) (by omega)
  obtain ⟨y1, -, -, -, y1v⟩ := (endLo_mid (neg := decide ((1 : Int) < 0)) (s := s) le2 s2 b2).bare (by omega) (by omega)
  obtain ⟨y2, -, -, -, y2v⟩ := (endHi_mid (neg := decide ((1 : Int) < 0)) (s := s) le2 s2 b2).bare (by omega) (by omega)
  obtain ⟨d1, q1, v1, -⟩ := addQ_val x1 y1 (by omega) (by omega)
  obtain ⟨d2, q2, v2, -⟩ := addQ_val x2 y2 (by omega) (by omega)
  have h1 := dn_eq (a3.symm.trans q1)
  have h2 := dn_eq (a4.symm.trans q2)
  subst h1
  subst h2
  have f1 : decide (1 < 1) = false := by decide
  have f2 : decide ((1 : Int) < 0) = false := by decide
  rw [x1v, y1v, qv_endLo, qv_endLo, f1, f2] at v1
  rw [x2v, y2v, qv_endHi, qv_endHi, f1, f2] at v2
  have z0 : ((0 * 2 : Nat) : Rat) = 0 := rfl
  have n1 : ∀ x : Nat, x * (1 : Int).natAbs = x := fun x => Nat.mul_one x
  rw [z0, n1, n1] at v1
  rw [z0, n1, n1] at v2
  simp only [Bool.false_eq_true, if_false, Rat.zero_mul, Rat.zero_add] at v1 v2
  exact ⟨v1, v2⟩
theorem ln2_pos {s L H : Nat} (o : AtOk 1 3 s L H) (s1 : 16 ≤ s) : 0 < L := by
  have e : (1 / 3 : Rat) * ((3 : Nat) : Rat) = ((1 : Nat) : Rat) := by decide +kernel
  have h1 := o.hi _ e (by decide +kernel) (by decide +kernel) 1
  have e1 : atA (1 / 3) 1 = 1 / 3 := by decide +kernel
  rw [e1] at h1
  have hw := o.wide
  have h2 : 2 ^ s ≤ 3 * H := by
    refine Rat.natCast_le_natCast.1 ?_
    rw [Rat.natCast_mul]
    show _ ≤ (3 : Rat) * _
    grind
  obtain ⟨j, rfl⟩ : ∃ j, s = 16 + j := ⟨s - 16, by omega⟩
  have h3 : j < 2 ^ j := Nat.lt_two_pow_self
  rw [Nat.pow_add] at h2
  omega

/-- series.Within, by its results' values. -/
theorem Within_v {w : World} {v u : Value} {neg : Bool} {L H s : Nat} (h : Num w v L) (k : Num w u H) (hT : Tab w) (hLH : L ≤ H) (s2 : s ≤ 9000) (sH : bitN H ≤ s + 60) :
    Calls Tryd.prog 33 #[v, u, .int .i64 (s : Int), .bool neg] w fun e w' => ∃ n1 m1 e1 n2 m2 e2 x y, e = .returned (.agg #[.bool n1, x, .int .i64 e1, .bool n2, y, .int .i64 e2]) ∧
      (qv ⟨n1, m1, e1⟩ = qv (endLo neg L H s) ∧ qv ⟨n2, m2, e2⟩ = qv (endHi neg L H s) ∧ Mid 9100 ⟨n1, m1, e1⟩ ∧ Mid 9100 ⟨n2, m2, e2⟩) ∧ RdN w' x (digs BB m1) ∧ RdN w' y (digs BB m2) ∧ Below w.heap.size w w' := by
  obtain ⟨⟨n1, m1, e1⟩, q1⟩ : ∃ d, bareD (endLo neg L H s) = d := ⟨_, rfl⟩
  obtain ⟨⟨n2, m2, e2⟩, q2⟩ : ∃ d, bareD (endHi neg L H s) = d := ⟨_, rfl⟩
  obtain ⟨a1, -, -, -, a2⟩ := (endLo_mid (neg := neg) hLH s2 sH).bare (by omega) (by omega)
  obtain ⟨b1, -, -, -, b2⟩ := (endHi_mid (neg := neg) hLH s2 sH).bare (by omega) (by omega)
  rw [q1] at a1 a2
  rw [q2] at b1 b2
  refine (Within_n (neg := neg) (s := (s : Int)) h k hT hLH (by omega) (by omega) (by omega) q1 q2).mono ?_
  rintro e w' ⟨x, y, rfl, h1, h2, h3⟩
  exact ⟨n1, m1, e1, n2, m2, e2, x, y, rfl, ⟨a2, b2, a1, b1⟩, h1, h2, h3⟩
theorem Mid.nums {k : Int} {n : Bool} {m : Nat} {e : Int} (h : Mid k ⟨n, m, e⟩) : (bitN m : Int) ≤ k + k ∧ -k ≤ e ∧ e ≤ k := by
  have := h.bits
  exact ⟨this, h.1, h.2.1⟩
theorem signD_pos {d : Dn} (h : 0 < qv d) : signD d = 1 := by
  rcases signD_val d with ⟨h1, h2⟩ | ⟨h1, h2⟩ | ⟨h1, h2⟩
  · exfalso; grind
  · exfalso; grind
  · exact h2
theorem bare2 : bareD ⟨false, 2, 0⟩ = ⟨false, 1, 1⟩ := rfl
theorem bare1 : bareD ⟨false, 1, 1⟩ = ⟨false, 1, 1⟩ := rfl
theorem bare0 : bareD ⟨false, 0, 0⟩ = ⟨false, 0, 0⟩ := rfl
theorem near2 : nearOk ⟨false, 1, 1⟩ = true := by decide
theorem near0 : nearOk ⟨false, 0, 0⟩ = false := by decide
end Go.Proofs.YtflkemcoomgoiaaDoor
