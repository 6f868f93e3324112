/- Sums of dyads, plainly; blocks of three under three allocs. Conditions: none. -/
import Derived.Test.YtflkemcoomgoiaaDoorDyLaw
import Derived.Test.YtflkemcoomgoiaaDoorDy5
namespace Go.Proofs.YtflkemcoomgoiaaDoor
set_option maxRecDepth 100000
open Go.RowKit Go.ChangeShapes Go.WideShapes
theorem blk3a {w : World} {c : Array Value} {T : TypeId} {o1 o2 : Obj} : Blk (((w.alloc (.cells c T (0, 0))).alloc o1).alloc o2) w.heap.size c := blk_a1.below (below_alloc _ _)
theorem blk3b {w : World} {c : Array Value} {T : TypeId} {o1 o2 : Obj} : Blk (((w.alloc o1).alloc (.cells c T (0, 0))).alloc o2) (w.heap.size + 1) c := blk_a2.below (below_alloc _ _)
theorem blk3c {w : World} {c : Array Value} {T : TypeId} {o1 o2 : Obj} : Blk (((w.alloc o1).alloc o2).alloc (.cells c T (0, 0))) (w.heap.size + 1 + 1) c := by
  have := blk_a2 (w := w.alloc o1) (o := o2) (c := c) (T := T)
  have e : (w.alloc o1).heap.size = w.heap.size + 1 := by simp
  rw [e] at this; exact this
theorem below3 {w : World} {o1 o2 o3 : Obj} : Below w.heap.size w (((w.alloc o1).alloc o2).alloc o3) := below_a below_2


/-- The sum of two, told as digits at the lower exponent. -/
def addR (neg neg2 : Bool) (X Y : Nat) : Bool × Nat := if neg = neg2 then (neg, X + Y) else if Y ≤ X then (neg, X - Y) else (neg2, Y - X)
/-- What Bare and Make tell: a dyad and an error's number. -/
def makeQ (d : Dn) : Bool × Nat × Int × Int := if fitsE (bareD d).e = true then ((bareD d).neg, (bareD d).m, (bareD d).e, 0) else (false, 0, 0, 2)
/-- The sum of two bare ones. -/
def sumD (a b : Dn) : Dn := ⟨(addR a.neg b.neg (a.m * 2 ^ (a.e - min a.e b.e).toNat) (b.m * 2 ^ (b.e - min a.e b.e).toNat)).1, (addR a.neg b.neg (a.m * 2 ^ (a.e - min a.e b.e).toNat) (b.m * 2 ^ (b.e - min a.e b.e).toNat)).2, min a.e b.e⟩
/-- What Add tells. -/
def addQ (a b : Dn) : Bool × Nat × Int × Int :=
  if fitsE (bareD a).e = false then (false, 0, 0, 2) else if fitsE (bareD b).e = false then (false, 0, 0, 2)
  else if (bareD a).m = 0 then ((bareD b).neg, (bareD b).m, (bareD b).e, 0) else if (bareD b).m = 0 then ((bareD a).neg, (bareD a).m, (bareD a).e, 0)
  else if 65535 < max (topD (bareD a)) (topD (bareD b)) - min (bareD a).e (bareD b).e then (false, 0, 0, 2) else makeQ (sumD (bareD a) (bareD b))

theorem Blk.set1 {w : World} {b : Nat} {x y z : Value} (h : Blk w b #[x, y, z]) (x' : Value) : Blk (w.setCell ⟨b, 0, none⟩ x') b #[x', y, z] := by
  obtain ⟨h1, T, h2⟩ := h
  exact ⟨by simpa [World.setCell] using h1, T, heap_setC h2 x'⟩
theorem Blk.other1 {w : World} {b b' j : Nat} {c : Array Value} (h : Blk w b c) (hne : b ≠ b') (x : Value) : Blk (w.setCell ⟨b', j, none⟩ x) b c := by
  obtain ⟨h1, T, h2⟩ := h
  exact ⟨by simpa [World.setCell] using h1, T, heap_setO h2 x hne⟩
theorem RdN.set1 {w : World} {v : Value} {l : List Nat} {b : Nat} {c : Array Value} (h : RdN w v l) (hB : Blk w b c) (hc : ∀ x ∈ c.toList, ∀ n : Nat, x ≠ L64 n) (x : Value) : RdN (w.setCell ⟨b, 0, none⟩ x) v l := by
  have h2 := (h.away hB hc).keep (S := fun g => g = b) ((Fr.refl (fun g => g = b) w).setCell (p := ⟨b, 0, none⟩) rfl x) (fun _ h => h)
  exact h2.mono (fun _ _ _ => trivial)
theorem Num.set1 {w : World} {v : Value} {n b : Nat} {c : Array Value} (h : Num w v n) (hB : Blk w b c) (hc : ∀ x ∈ c.toList, ∀ n : Nat, x ≠ L64 n) (x : Value) : Num (w.setCell ⟨b, 0, none⟩ x) v n := by
  obtain ⟨l, h1, h2⟩ := h; exact ⟨l, h1.set1 hB hc x, h2⟩
theorem Num.set3 {w : World} {v : Value} {n b : Nat} {c : Array Value} (h : Num w v n) (hB : Blk w b c) (hc : ∀ x ∈ c.toList, ∀ n : Nat, x ≠ L64 n) (x y z : Value) : Num (((w.setCell ⟨b, 0, none⟩ x).setCell ⟨b, 1, none⟩ y).setCell ⟨b, 2, none⟩ z) v n := by
  obtain ⟨l, h1, h2⟩ := h; exact ⟨l, h1.set3 hB hc x y z, h2⟩
theorem Bare_q {w : World} {v : Value} {neg n' : Bool} {M M' : Nat} {E E' k : Int} (h : Num w v M) (hT : Tab w) (h1 : -9223372036854775808 ≤ E) (h2 : E ≤ 9223372036854775807) (e : makeQ ⟨neg, M, E⟩ = (n', M', E', k)) :
    Calls Tryd.prog 51 #[.agg #[.bool neg, v, .int .i64 E]] w (fun e w' => ∃ v, e = .returned (.tuple #[.agg #[.bool n', v, .int .i64 E'], .int .i64 k]) ∧ RdN w' v (digs BB M') ∧ Below w.heap.size w w') := by
  unfold makeQ at e
  split at e
  · rename_i hf
    injection e with e1 e2; injection e2 with e2 e3; injection e3 with e3 e4
    subst e1 e2 e3 e4
    exact Bare_ok h hT h1 h2 rfl hf
  · rename_i hf
    injection e with e1 e2; injection e2 with e2 e3; injection e3 with e3 e4
    subst e1 e2 e3 e4
    refine (Bare_long h hT h1 h2 rfl (eq_false_of_ne_true hf)).mono ?_
    rintro r w' ⟨rfl, hB⟩
    exact ⟨_, rfl, RdN.nil0 _, hB⟩
theorem Make_q {w : World} {v : Value} {neg n' : Bool} {M M' : Nat} {E E' k : Int} (h : Num w v M) (hT : Tab w) (h1 : -9223372036854775808 ≤ E) (h2 : E ≤ 9223372036854775807) (e : makeQ ⟨neg, M, E⟩ = (n', M', E', k)) :
    Calls Tryd.prog 40 #[.bool neg, v, .int .i64 E] w (fun e w' => ∃ v, e = .returned (.tuple #[.agg #[.bool n', v, .int .i64 E'], .int .i64 k]) ∧ RdN w' v (digs BB M') ∧ Below w.heap.size w w') := by
  unfold makeQ at e
  split at e
  · rename_i hf
    injection e with e1 e2; injection e2 with e2 e3; injection e3 with e3 e4
    subst e1 e2 e3 e4
    exact Make_ok h hT h1 h2 rfl hf
  · rename_i hf
    injection e with e1 e2; injection e2 with e2 e3; injection e3 with e3 e4
    subst e1 e2 e3 e4
    refine (Make_long h hT h1 h2 rfl (eq_false_of_ne_true hf)).mono ?_
    rintro r w' ⟨rfl, hB⟩
    exact ⟨_, rfl, RdN.nil0 _, hB⟩
end Go.Proofs.YtflkemcoomgoiaaDoor
