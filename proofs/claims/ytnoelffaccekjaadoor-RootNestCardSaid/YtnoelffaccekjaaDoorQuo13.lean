/- quo.long's loops: their relations in memory, and the steps. Conditions: the limbs are limbs. -/
import Derived.Test.YtnoelffaccekjaaDoorQuo12
namespace Go.Proofs.YtnoelffaccekjaaDoor
open Go.RowKit

/-- What a division leaves. -/
def TwoN (w : World) (a b : Nat) (e : Ending) (w' : World) : Prop :=
  ∃ v u, e = .returned (.tuple #[v, u]) ∧ RdN w' v (digs BB a) ∧ RdN w' u (digs BB b) ∧ Below w.heap.size w w'

theorem of_drew {B : Nat} {w w' : World} (h : Below B w.drew w') : Below B w w' := ⟨h.os, h.tape, h.output, h.size, h.block⟩

/-- The outer loop's relation, in memory. -/
structure OutRel (w1 wm : World) (BU BQ LU N D n qn p : Nat) (U Q : List Nat) (wr : World) : Prop where
  r : LongRel N D n qn p U Q
  uo : wr.ownsRow w1.heap.size 33 1 (.slice (some ⟨BU, 0, none⟩) LU LU) LU (U.map L64)
  qo : wr.ownsRow w1.heap.size 33 1 (.slice (some ⟨BQ, 0, none⟩) qn qn) qn (Q.map L64)
  fr : Fr (fun g => g = BU ∨ g = BQ) wm wr

/-- The inner loop's relation, in memory. -/
structure PutIn (w : World) (BU LU base D u j n : Nat) (X0 : List Nat) (q : Nat) (c : Bool) (X : List Nat) (wr : World) : Prop where
  o : PartOwn w BU LU base X0 X wr
  above : ∀ i, j + n + 1 ≤ i → X.getD i 0 = X0.getD i 0
  rel : InRel D u j n q c (val BB (X.take (j + n + 1)))

theorem PutIn.first {w w' : World} {N D n m j B LU base g : Nat} {U Q V : List Nat} {c : Bool} (hr : LongRel N D n m (j + 1) U Q) (hD : D < BB ^ n) (hV : V.length = n) (hv : val BB V = D) (hup : val BB (part U j n) < (g + 1) * D) (ht : TakeEnd w B LU j base V U g c w') :
    ∃ X, PutIn w B LU base D (val BB U) j n U g c X w' := by
  obtain ⟨X, ho, ha, hs⟩ := ht
  rw [hV] at ha hs
  rw [hv] at hs
  obtain ⟨c1, c2⟩ := hr.cut hD
  rw [← Nat.add_assoc] at c1
  rw [c1] at hs
  refine ⟨X, ho, ha, hs, ?_⟩
  have h1 := val_lt (hr.udig.take j)
  have hle := hr.le
  rw [List.length_take, hr.ulen, Nat.min_eq_left (by omega)] at h1
  have h2 : BB ^ j * (val BB (part U j n) + 1) ≤ BB ^ j * ((g + 1) * D) := Nat.mul_le_mul_left _ hup
  rw [Nat.mul_add, Nat.mul_one] at h2
  rw [c2, Nat.mul_comm ((g + 1) * D)]
  omega

theorem PutIn.back {w wr w' : World} {D u n j B LU base q : Nat} {X0 X V : List Nat} {c : Bool} (h : PutIn w B LU base D u j n X0 q true X wr) (hl : j + n + 1 ≤ X0.length) (hV : V.length = n) (hv : val BB V = D) (hp : PutEnd wr B LU j base V X c w') :
    q ≠ 0 ∧ ∃ X', PutIn w B LU base D u j n X0 (q - 1) (!c) X' w' := by
  obtain ⟨X', ho, ha, hs⟩ := hp
  rw [hV] at ha hs
  rw [hv] at hs
  have hY := val_lt (h.o.dig.take (j + n + 1))
  rw [List.length_take, h.o.len, Nat.min_eq_left hl] at hY
  exact ⟨(h.rel.pos hY).2, X', ⟨ho.len.trans h.o.len, ho.dig, ho.own, h.o.fr.trans ho.fr⟩, fun i hi => (ha i hi).trans (h.above i hi), h.rel.back hY hs⟩

theorem PutIn.pos {w wr : World} {D u n j B LU base q : Nat} {X0 X : List Nat} (h : PutIn w B LU base D u j n X0 q true X wr) (hl : j + n + 1 ≤ X0.length) : q ≠ 0 := by
  have hY := val_lt (h.o.dig.take (j + n + 1))
  rw [List.length_take, h.o.len, Nat.min_eq_left hl] at hY
  exact (h.rel.pos hY).2

theorem PutIn.done {w wr : World} {N D n m j B LU base q : Nat} {U Q X : List Nat} (hr : LongRel N D n m (j + 1) U Q) (hD : D < BB ^ n) (hq : q < BB) (h : PutIn w B LU base D (val BB U) j n U q false X wr) : LongRel N D n m j X (Q.set j q) := by
  refine hr.step h.o.len h.o.dig hq ?_
  have c1 := (hr.cut hD).1
  rw [← Nat.add_assoc] at c1
  rw [val_upper h.o.len h.above c1]
  exact h.rel

theorem OutRel.next {w1 wm wr w3 wx : World} {BU BQ LU N D n qn j q : Nat} {U Q X : List Nat} (h : OutRel w1 wm BU BQ LU N D n qn (j + 1) U Q wr) (hb : Below wr.heap.size wr w3) (hP : PutIn w3 BU LU w1.heap.size D (val BB U) j n U q false X wx) (hq : q < BB) (hD : D < BB ^ n) (hne : BU ≠ BQ) :
    OutRel w1 wm BU BQ LU N D n qn j X (Q.set j q) (wx.setCell ⟨BQ, j, none⟩ (L64 q)) := by
  have q1 := own_below h.qo hb
  have q2 := own_fr_at q1 hP.o.fr (fun e => hne e.symm)
  refine ⟨hP.done h.r hD hq, ?_, ?_, ?_⟩
  · exact own_fr_at (S := fun g => g = BQ) hP.o.own ((Fr.refl (fun g => g = BQ) _).setCell (p := ⟨BQ, j, none⟩) rfl _) hne
  · rw [List.map_set]; exact (q2.stored j _).1
  · exact ((h.fr.trans (Fr.of_below hb)).trans (hP.o.fr.mono (fun _ h => .inl h))).setCell (p := ⟨BQ, j, none⟩) (.inr rfl) _
theorem OutRel.drew {w1 wm wr : World} {BU BQ LU N D n qn p : Nat} {U Q : List Nat} (h : OutRel w1 wm BU BQ LU N D n qn p U Q wr) : OutRel w1 wm BU BQ LU N D n qn p U Q wr.drew :=
  ⟨h.r, h.uo, h.qo, h.fr.drew⟩
end Go.Proofs.YtnoelffaccekjaaDoor
