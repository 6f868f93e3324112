/- prod.row by its contract. Conditions: the lists are short, the limbs are limbs, the place is long enough. -/
import Derived.Test.YtnoelffaccekjaaDoorNat4
import Derived.Test.YtnoelffaccekjaaDoorRowLaw
namespace Go.Proofs.YtnoelffaccekjaaDoor
open Go.RowKit

/-- What math/bits hands back, by names (so that no rewriting looks inside). -/
def mLo (x y : Nat) : Nat := x * y % BB
def mHi (x y : Nat) : Nat := x * y / BB
def sLo (x y : Nat) : Nat := (x + y) % BB
def sHi (x y : Nat) : Nat := (x + y) / BB
theorem run_add0 (x y : Nat) (w : World) :
    (callFunc 38 #[.int .u64 x, .int .u64 y, .int .u64 0]).run Tryd.prog w = .ok (.value (.tuple #[.int .u64 (sLo x y : Nat), .int .u64 (sHi x y : Nat)])) w := run_add x y 0 (Nat.zero_le _) w
theorem mul_named {x y : Nat} (hx : x < BB) (hy : y < BB) (w : World) :
    Calls Tryd.prog 53 #[L64 x, L64 y] w fun e w' => e = .returned (.tuple #[.int .u64 (mHi x y : Nat), .int .u64 (mLo x y : Nat)]) ∧ w' = w := Tryd.bits_Mul64 x y hx hy w

theorem getD_lt {l : List Nat} {k : Nat} (h : k < l.length) : l.getD k 0 = l[k] := by
  rw [List.getD_eq_getElem?_getD, List.getElem?_eq_getElem h, Option.getD_some]

/-- The loop's relation in row. -/
def RowRel (w : World) (B N off base : Nat) (l X0 : List Nat) (n k cy : Nat) (X : List Nat) (wr : World) : Prop :=
  RowSum BB off l X0 n k cy X ∧ k ≤ l.length ∧ wr.ownsRow base 33 1 (.slice (some ⟨B, 0, none⟩) N N) N (X.map L64) ∧ Fr (fun g => g = B) w wr

/-- What row leaves. -/
def RowEnd (w : World) (B N off base : Nat) (l X0 : List Nat) (n : Nat) (w' : World) : Prop :=
  ∃ X, w'.ownsRow base 33 1 (.slice (some ⟨B, 0, none⟩) N N) N (X.map L64) ∧ Fr (fun g => g = B) w w' ∧ X.length = X0.length ∧ Dig BB X ∧
    (∀ j, off + l.length + 1 ≤ j → X.getD j 0 = X0.getD j 0) ∧ val BB (X.take (off + l.length + 1)) = val BB (X0.take (off + l.length)) + BB ^ off * (val BB l * n)

set_option maxHeartbeats 400000 in
theorem row_any {w : World} {B M off base : Nat} {v : Value} {l X0 : List Nat} {n : Nat} (how : w.ownsRow base 33 1 (.slice (some ⟨B, 0, none⟩) (off + M) (off + M)) (off + M) (X0.map L64)) (hl : Rd (fun g => g ≠ B) w v (l.map L64)) (hlen : l.length + 1 ≤ M) (hN : off + M ≤ 100000) (hX0 : X0.length = off + M) (hd : Dig BB l) (hd0 : Dig BB X0) (hn : n < BB) :
    Calls Tryd.prog 46 #[.slice (some ⟨B, off, none⟩) M M, v, L64 n] w (fun e w' => e = .returned (.tuple #[]) ∧ RowEnd w B (off + M) off base l X0 n w') := by
  obtain ⟨a, c, rfl, h2, h3, h4, -⟩ := hl.view
  rw [List.length_map] at h2 hl ⊢
  unfold maxLen at h3
  have HL := Lib.hid hl; have HO := Lib.hid how; clear hl how
  go_enter Tryd.func46, Tryd.ntmps46
  go_wp2
  go_loopw [14, 6] (fun i cy wr => ∃ (k cy' : Nat) (X : List Nat), i = .int .i64 k ∧ cy = L64 cy' ∧ RowRel w B (off + M) off base l X0 n k cy' X wr) (fun i _ _ => l.length - (intOf i).toNat)
  case atStart =>
    exact ⟨0, 0, X0, rfl, rfl, .start BB_pos hd0, Nat.zero_le _, HO.out, .refl _ _⟩
  case round =>
    obtain ⟨k, cy, X, rfl, rfl, hs, hk, how, hfr⟩ := hrel
    have HR := Lib.hid hs; have HOW := Lib.hid how; have HF := Lib.hid hfr
    have hXl : X.length = off + M := by rw [hs.len, hX0]
    have hcy := hs.carry
    have hdX := Lib.hid hs.dig
    clear how hfr hs
    by_cases hkn : k < l.length
    · obtain ⟨a', c', e1, -, -, -, hc⟩ := (HL.out.keep HF.out (fun g h1 h2 => h1 h2)).view
      injection e1 with e1 e2 e3; subst e1 e3
      obtain ⟨g, of, rfl, hg, -, hcell⟩ := hc k (by simpa using hkn)
      clear hc e2
      rw [List.getElem?_map, List.getElem?_eq_getElem hkn, Option.map_some, Option.getD_some] at hcell
      have hca := HOW.out.cellAt (off + k) (by omega)
      have hkx : off + k < X.length := by omega
      rw [List.getElem?_map, List.getElem?_eq_getElem hkx, Option.map_some] at hca
      have hfr := HOW.out.frozenAt (off + k)
      have hstep := Lib.hid (HR.out.step BB_pos hd hn hkx)
      have hone := one_place BB_pos (hd.getD BB_pos k) hn hcy (hdX.out.getD BB_pos (off + k))
      have hxb := hd.getD BB_pos k
      rw [getD_lt hkn] at hone hxb
      rw [getD_lt hkx] at hone
      rw [getD_lt hkn, getD_lt hkx] at hstep
      generalize l[k] = x at hcell hone hstep hxb
      generalize X[off + k] = o at hca hone hstep
      have h1 : mHi x n + sHi (mLo x n) cy < 18446744073709551616 := hone.1
      have h2' : mHi x n + sHi (mLo x n) cy + sHi o (sLo (mLo x n) cy) < 18446744073709551616 := hone.2.1
      clear hone
      go_wp2_with (first
          | (go_at_call 53; ((with_reducible refine (mul_named hxb hn _).mono ?_)); rintro e w1 ⟨rfl, rfl⟩)
          | simp only [run_add0])
      go_round
      case rel =>
        exact ⟨k + 1, _, X.set (off + k) (sLo o (sLo (mLo x n) cy)), by go_num, rfl, hstep.out, hkn, by
          rw [List.map_set]
          exact (HOW.out.stored (off + k) _).1, HF.out.setCell (p := ⟨B, off + k, none⟩) rfl _⟩
      case measure => simp [intOf]; omega
    · have hkl : k = l.length := by omega
      subst hkl
      have hca := HOW.out.cellAt (off + l.length) (by omega)
      have hkx : off + l.length < X.length := by omega
      rw [List.getElem?_map, List.getElem?_eq_getElem hkx, Option.map_some] at hca
      have hfr := HOW.out.frozenAt (off + l.length)
      go_wp2
      go_end0
      refine ⟨rfl, X.set (off + l.length) cy, ?_, HF.out.setCell (p := ⟨B, off + l.length, none⟩) rfl _, by rw [List.length_set, hXl, hX0], hdX.out.set _ hcy, fun j hj => ?_, HR.out.fin hkx⟩
      · rw [List.map_set]
        exact (HOW.out.stored (off + l.length) _).1
      · rw [List.getD_eq_getElem?_getD, List.getElem?_set_ne (by omega), ← List.getD_eq_getElem?_getD]
        exact HR.out.above j (by omega)
end Go.Proofs.YtnoelffaccekjaaDoor
