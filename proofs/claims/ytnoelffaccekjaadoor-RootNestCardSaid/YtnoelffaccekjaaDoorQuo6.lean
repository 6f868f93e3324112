/- math/bits.TrailingZeros64 and nat.Low by their contracts. Conditions: the table stands in its variable. -/
import Derived.Test.YtnoelffaccekjaaDoorQuo5
import Derived.Shelf.Spec.TrailingZeros
namespace Go.Proofs.YtnoelffaccekjaaDoor
open Go.RowKit

/-- The table of math/bits stands in its variable. -/
structure Tab (w : World) : Prop where
  at_ : TabAt 2 Lib.deBruijn64tab w
  lt : 2 < w.heap.size
theorem Tab.below {w w' : World} (h : Tab w) (hb : Below w.heap.size w w') : Tab w' :=
  ⟨fun j hj => (hb.cell (p := ⟨2, j, none⟩) h.lt).trans (h.at_ j hj), Nat.lt_of_lt_of_le h.lt hb.size⟩
theorem Tab.fr {w w' : World} {S : Nat → Prop} (h : Tab w) (hf : Fr S w w') (hs : ¬ S 2) : Tab w' :=
  ⟨fun j hj => hf.at_cell (h.at_ j hj) hs, Nat.lt_of_lt_of_le h.lt hf.size⟩

theorem tz_core {w : World} {x k idx : Nat} (hx0 : ((x : Int) == 0) = false)
    (key : IntKind.u64.wrap (bits BinOp.and IntKind.u64 (x : Int) (IntKind.u64.wrap (-(x : Int))) * 285870213051353865) / 288230376151711744 = (idx : Int))
    (hi : idx < 64) (hk : k < 64) (hcell : w.cell? ⟨2, idx, none⟩ = some (.int .u8 k)) :
    Calls Tryd.prog 65 #[.int .u64 x] w fun e w' => e = .returned (.int .i64 k) ∧ w' = w := by
  go_enter Tryd.func65, Tryd.ntmps65
  go_wp2_with (simp only [key])
  go_ret
  exact ⟨rfl, rfl⟩

theorem tz_any {w : World} {x : Nat} (hx : x < 18446744073709551616) (hx0 : x ≠ 0) (hT : Tab w) :
    Calls Tryd.prog 65 #[.int .u64 x] w fun e w' => e = .returned (.int .i64 (Lib.ctz 64 x)) ∧ w' = w := by
  obtain ⟨hlow, hk⟩ := Lib.lowest_bit 64 x hx0 hx
  obtain ⟨hi, htab⟩ := Lib.deBruijn64_at _ hk
  have hcell := hT.at_ _ hi
  rw [htab] at hcell
  exact tz_core (by simp; omega) (tz64_key x _ hx hx0 hlow) hi hk hcell

theorem ctz_spec {x : Nat} (h0 : x ≠ 0) (h : x < 18446744073709551616) : ∃ m, x = 2 ^ Lib.ctz 64 x * (2 * m + 1) ∧ Lib.ctz 64 x < 64 := by
  obtain ⟨m, h1, h2⟩ := Lib.ctzFrom_spec 64 x (by omega) h
  have e : Lib.ctz 64 x = Lib.ctzFrom 64 x := by simp [Lib.ctz, h0]
  rw [e]; exact ⟨m, h1, h2⟩

/-- How often a number can be halved. -/
def IsLow (A k : Nat) : Prop := (A = 0 ∧ k = 0) ∨ ∃ m, A = 2 ^ k * (2 * m + 1)

theorem low_step {l : List Nat} {k x : Nat} (hz : val BB (l.take k) = 0) (hk : k < l.length) (hx : l.getD k 0 = x) (h0 : x ≠ 0) (h : x < 18446744073709551616) : IsLow (val BB l) (64 * k + Lib.ctz 64 x) := by
  obtain ⟨m, h1, h2⟩ := ctz_spec h0 h
  right
  have e := val_take_drop BB l k (by omega)
  rw [hz, Nat.zero_add, val_drop_succ BB l k hk, hx] at e
  obtain ⟨j, hj⟩ : ∃ j, 64 = Lib.ctz 64 x + 1 + j := ⟨63 - Lib.ctz 64 x, by omega⟩
  generalize Lib.ctz 64 x = c at *
  have eb : BB = 2 ^ c * 2 * 2 ^ j := by rw [BB_pow, hj, Nat.pow_add, Nat.pow_succ]
  have eb2 : BB ^ k = 2 ^ (64 * k) := by rw [BB_pow, ← Nat.pow_mul]
  generalize val BB (l.drop (k + 1)) = V at e
  refine ⟨m + 2 ^ j * V, ?_⟩
  rw [e, eb2, Nat.pow_add, Nat.mul_assoc]
  congr 1
  rw [h1, eb]
  simp only [Nat.mul_add, Nat.mul_one]
  have e2 : 2 ^ c * 2 * 2 ^ j * V = 2 ^ c * (2 * (2 ^ j * V)) := by simp only [Nat.mul_assoc]
  rw [e2]; omega

set_option maxHeartbeats 400000 in
theorem low_any {w : World} {v : Value} {l : List Nat} (hl : RdN w v l) (hd : Dig BB l) (h1 : l.length ≤ 100000) (hT : Tab w) :
    Calls Tryd.prog 64 #[v] w (fun e w' => ∃ k, e = .returned (.int .i64 (k : Nat)) ∧ IsLow (val BB l) k ∧ w' = w ∧ k ≤ 6400000) := by
  obtain ⟨a, c, rfl, h2, h3, h4, hc⟩ := hl.view
  have HC := Lib.hid hc; clear hc hl
  have HT := Lib.hid hT; clear hT
  go_enter Tryd.func64, Tryd.ntmps64
  go_wp2
  go_loop [7] (fun i => ∃ (k : Nat), i = .int .i64 k ∧ k ≤ l.length ∧ val BB (l.take k) = 0) (fun i => l.length - (intOf i).toNat)
  case atStart => exact ⟨0, rfl, Nat.zero_le _, by simp⟩
  case round =>
    obtain ⟨k, rfl, hk, hz⟩ := hrel
    have HZ := Lib.hid hz; clear hz
    by_cases hkn : k < l.length
    · obtain ⟨g, of, rfl, hg, hcell⟩ := HC.out k hkn
      rw [← List.getD_eq_getElem?_getD] at hcell
      have hx := hd.getD BB_pos k
      have HX := Lib.hid (show l.getD k 0 = l.getD k 0 from rfl)
      generalize hxx : l.getD k 0 = x at hcell hx
      have HXX := Lib.hid hxx
      clear HX hxx
      by_cases hx0 : x = 0
      · subst hx0
        go_wp2
        go_round
        case rel => exact ⟨k + 1, by go_num, hkn, by rw [val_take_succ, HZ.out, HXX.out]; simp⟩
        case measure => simp [intOf]; omega
      · have hx64 : x < 18446744073709551616 := hx
        have dx : ((x : Int) != 0) = true := by simp; omega
        have hL := low_step HZ.out hkn HXX.out hx0 hx64
        have HTZ := Lib.hid (tz_any hx64 hx0 HT.out)
        obtain ⟨m, -, hc64⟩ := ctz_spec hx0 hx64
        generalize Lib.ctz 64 x = c at *
        have HL := Lib.hid hL; clear hL
        go_wp2_with (go_at_call 65; (with_reducible refine HTZ.out.mono ?_); rintro e w1 ⟨rfl, rfl⟩)
        go_ret
        exact ⟨64 * k + c, by simp, HL.out, rfl, by omega⟩
    · have hkl : k = l.length := by omega
      have hz := HZ.out
      rw [hkl, List.take_length] at hz
      have HV := Lib.hid hz
      clear hz
      go_wp2
      go_ret
      exact ⟨0, rfl, .inl ⟨HV.out, rfl⟩, rfl, by omega⟩
end Go.Proofs.YtnoelffaccekjaaDoor
