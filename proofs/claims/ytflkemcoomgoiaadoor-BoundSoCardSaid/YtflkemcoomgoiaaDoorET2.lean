/- exps.Exp and exps.Split of one number, told together. Conditions: the number may be split; math/bits' table stands in its variable. (Only in the seat of ExpsTell: set expsz.) -/
import Derived.Test.YtflkemcoomgoiaaDoorEp4
import Derived.Test.YtflkemcoomgoiaaDoorExpG
import Derived.Test.YtflkemcoomgoiaaDoorSerC
namespace Go.Proofs.YtflkemcoomgoiaaDoor
set_option maxRecDepth 100000
open Go.RowKit Go.ChangeShapes Go.WideShapes
set_option linter.unusedVariables false

/-- What Exp tells of one number, and by which ends of ln 2. -/
def ExpT (d lo hi : Dn) (s : Nat) (k : Int) : Prop := ∃ L H, (AtOk 1 3 s L H ∧ AtDet 1 3 s L H) ∧ k = splitK (floorU d s) (L + L) (H + H) ∧ splitB (floorU d s) (ceilU d s) (L + L) (H + H) ≤ ((2 ^ s : Nat) : Int) ∧ ExpV d lo hi s k

theorem Exp_t {w : World} {v v' : Value} {b n' : Bool} {A M s : Nat} {e0 E : Int} (h : Num w v A) (h' : Num w v' A) (hT : Tab w) (r1 : -9223372036854775808 ≤ e0) (r2 : e0 ≤ 9223372036854775807) (q : bareD ⟨b, A, e0⟩ = ⟨n', M, E⟩) (g : rightB M E = true) (sA : bitN A ≤ 400000) (s1 : 8 ≤ s) (s2 : s ≤ 300) :
    Calls Tryd.prog 15 #[.agg #[.bool b, v, .int .i64 e0, .bool b, v', .int .i64 e0], .int .i64 (s : Int)] w (fun e w' => ∃ p1 k1 f1 p2 k2 f2 x y er, e = .returned (.tuple #[.agg #[.bool p1, x, .int .i64 f1, .bool p2, y, .int .i64 f2], .int .i64 er]) ∧
      ((er = 0 ∧ ∃ k, ExpT ⟨n', M, E⟩ ⟨p1, k1, f1⟩ ⟨p2, k2, f2⟩ s k) ∨ (er = 1 ∧ s < 40)) ∧ RdN w' x (digs BB k1) ∧ RdN w' y (digs BB k2) ∧ Below w.heap.size w w') := by
  have ht := (rightB_parts g).2.2.2
  have hlh : floorU ⟨n', M, E⟩ s ≤ ceilU ⟨n', M, E⟩ s := floor_ceil Rat.le_refl
  have hl := floor_small (d := ⟨n', M, E⟩) (s := s) ht
  refine (Exp_of h h' hT s1 (by omega) hlh hl (fun w v u h k hT => Split_any h k hT r1 r2 r1 r2 q q g g sA sA Rat.le_refl s1 (by omega))).mono ?_
  rintro e w' ⟨L, H, ok, ⟨A', B, Le, He, p1, k1, f1, p2, k2, f2, x, y, rfl, hA, hB, hf, oe, qa, qb, hx, hy, hb⟩ | ⟨hbad, rfl, hb⟩⟩
  · obtain ⟨y1, y2⟩ := oe.size (show s ≤ 9000 by omega)
    have o := exp_full (d := ⟨n', M, E⟩) s1 (show s ≤ 8900 by omega) ht ok.1 hA hB hf oe y1 y2 qa qb
    exact ⟨p1, k1, f1, p2, k2, f2, x, y, 0, rfl, .inl ⟨rfl, _, L, H, ok, rfl, by rw [hB]; exact Int.ofNat_le.2 hf, o⟩, hx, hy, hb⟩
  · refine ⟨false, 0, 0, false, 0, 0, _, _, 1, rfl, .inr ⟨rfl, ?_⟩, RdN.nil0 _, RdN.nil0 _, hb⟩
    rcases Nat.lt_or_ge s 32 with h5 | h5
    · omega
    · refine absurd hbad (not_refused h5 ok.1 hlh hl ?_)
      have hc := ceil_floor ⟨n', M, E⟩ s
      have h8 : 2 ^ 3 ≤ 2 ^ s := Nat.pow_le_pow_right (by decide) (by omega)
      have h9 : ((2 ^ 3 : Nat) : Int) ≤ ((2 ^ s : Nat) : Int) := Int.ofNat_le.2 h8
      have h10 : ((2 ^ 3 : Nat) : Int) = 8 := rfl
      rw [h10] at h9
      generalize ((2 ^ s : Nat) : Int) = p at *
      omega
theorem Split_t {w : World} {v v' : Value} {b n' : Bool} {A M s : Nat} {e0 E k : Int} {lo hi : Dn} (h : Num w v A) (h' : Num w v' A) (hT : Tab w) (r1 : -9223372036854775808 ≤ e0) (r2 : e0 ≤ 9223372036854775807) (q : bareD ⟨b, A, e0⟩ = ⟨n', M, E⟩) (g : rightB M E = true) (sA : bitN A ≤ 400000) (s1 : 8 ≤ s) (s2 : s ≤ 300) (o : ExpT ⟨n', M, E⟩ lo hi s k) :
    Calls Tryd.prog 31 #[.agg #[.bool b, v, .int .i64 e0, .bool b, v', .int .i64 e0], .int .i64 (s : Int)] w (fun e w' => ∃ va vb, e = .returned (.tuple #[.int .i64 k, va, vb, .int .i64 0]) ∧ Below w.heap.size w w') := by
  refine (Split_any h h' hT r1 r2 r1 r2 q q g g sA sA Rat.le_refl s1 (by omega)).mono ?_
  obtain ⟨L, H, ok, rfl, hf, -⟩ := o
  rintro e w' ⟨L', H', ok', ⟨A', B, va, vb, rfl, -, -, -, -, -, hb⟩ | ⟨hbad, -⟩⟩
  · obtain ⟨rfl, rfl⟩ := ok.2.uniq ok'.2
    exact ⟨va, vb, rfl, hb⟩
  · obtain ⟨rfl, rfl⟩ := ok.2.uniq ok'.2
    exact absurd hf (Int.not_le.2 hbad)
end Go.Proofs.YtflkemcoomgoiaaDoor
