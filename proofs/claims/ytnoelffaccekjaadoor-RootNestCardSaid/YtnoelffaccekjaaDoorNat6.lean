/- prod.product by its contract. Conditions: the lists are short, the limbs are limbs. -/
import Derived.Test.YtnoelffaccekjaaDoorNat5
namespace Go.Proofs.YtnoelffaccekjaaDoor
open Go.RowKit

theorem val_zeros (B : Nat) : ∀ (l : List Nat), (∀ j, l.getD j 0 = 0) → val B l = 0
  | [], _ => rfl
  | x :: l, h => by
    rw [val_cons, val_zeros B l (fun j => by simpa using h (j + 1)), show x = 0 from by simpa using h 0]; simp

theorem val_take_zeros (B : Nat) (l : List Nat) (k : Nat) (hk : k ≤ l.length) (h : ∀ j, k ≤ j → l.getD j 0 = 0) : val B (l.take k) = val B l := by
  rw [val_take_drop B l k hk, val_zeros B (l.drop k) (fun j => by
    have := h (k + j) (by omega)
    rw [List.getD_eq_getElem?_getD] at this ⊢
    rw [List.getElem?_drop]; exact this)]
  simp

theorem replicate_getD (n j : Nat) : (List.replicate n 0).getD j 0 = 0 := by
  rw [List.getD_eq_getElem?_getD, List.getElem?_replicate]; split <;> rfl

/-- The loop's relation in product: k limbs of m are done. -/
structure ProdRel (w : World) (B N : Nat) (l m : List Nat) (k : Nat) (X : List Nat) (wr : World) : Prop where
  le : k ≤ m.length
  len : X.length = N
  dig : Dig BB X
  above : ∀ j, l.length + k ≤ j → X.getD j 0 = 0
  sum : val BB X = val BB l * val BB (m.take k)
  own : wr.ownsRow B 33 1 (.slice (some ⟨B, 0, none⟩) N N) N (X.map L64)
  below : Below B w wr

theorem ProdRel.step {w wr wr' : World} {B N : Nat} {l m X : List Nat} {k : Nat} (h : ProdRel w B N l m k X wr) (hk : k < m.length) (hN : l.length + m.length + 1 = N) (hB : w.heap.size = B)
    (hr : RowEnd wr B N k B l X (m.getD k 0) wr') : ∃ X', ProdRel w B N l m (k + 1) X' wr' := by
  obtain ⟨X', how, hfr, hl, hd, hab, hv⟩ := hr
  have hz : ∀ j, k + l.length + 1 ≤ j → X'.getD j 0 = 0 := fun j hj => by rw [hab j hj]; exact h.above j (by omega)
  refine ⟨X', hk, by rw [hl, h.len], hd, fun j hj => hz j (by omega), ?_, how, h.below.trans (hfr.below (by rw [← hB]; exact h.below.size) (fun g hg => by omega))⟩
  have e1 := val_take_zeros BB X' (k + l.length + 1) (by rw [hl, h.len]; omega) hz
  have e2 := val_take_zeros BB X (k + l.length) (by rw [h.len]; omega) (fun j hj => h.above j (by omega))
  rw [← e1, hv, e2, h.sum, val_take_succ, Nat.mul_add, Nat.mul_left_comm]

set_option maxHeartbeats 400000 in
theorem product_any {w : World} {v u : Value} {l m : List Nat} (hl : RdN w v l) (hm : RdN w u m) (hdl : Dig BB l) (hdm : Dig BB m) (h1 : l.length ≤ 40000) (h2 : m.length ≤ 40000) :
    Calls Tryd.prog 34 #[v, u] w (One w (digs BB (val BB l * val BB m))) := by
  obtain ⟨a, c, rfl, hac, hc, -, -⟩ := hl.view
  obtain ⟨b, d, rfl, hbc, hd, -, -⟩ := hm.view
  obtain ⟨i0, hi, hz0, hz1, hz2⟩ := info_parts infoU
  have HL := Lib.hid hl; have HM := Lib.hid hm; clear hl hm
  obtain ⟨n, hn, hn1⟩ : ∃ n : Nat, ((l.length : Int) + (m.length : Int) + 1) = (n : Int) ∧ l.length + m.length + 1 = n := ⟨l.length + m.length + 1, by omega, rfl⟩
  go_enter Tryd.func34, Tryd.ntmps34
  go_wp2_with (at_make; go_loud (refine wpList_make_full _ rfl (.tmp 13) (.tmp 13) 22 rfl w.heap.size 33 i0 (.int .u64 0) 1 Tryd.underlying22 hi hz0 hz1 .i64 .i64 n n n ?_ ?_ rfl rfl ?_ ?_ ?_ ?_; (any_goals (first | rfl | (rw [hz2]; omega) | (unfold maxLen; omega) | (with_reducible exact Nat.le_refl _))); intro w0 hown0 hgrow0))
  rw [made_zero] at hown0
  go_loopw [17] (fun i wr => ∃ (k : Nat) (X : List Nat), i = .int .i64 k ∧ ProdRel w w.heap.size n l m k X wr) (fun i _ => m.length - (intOf i).toNat)
  case atStart =>
    exact ⟨0, List.replicate n 0, rfl, Nat.zero_le _, by simp, Dig.replicate BB_pos n, fun j _ => replicate_getD n j, by simp [val_replicate], hown0, (Below.refl _ _).grown hgrow0 (Nat.le_refl _) (by simp)⟩
  case round =>
    obtain ⟨k, X, rfl, hp⟩ := hrel
    have HP := Lib.hid hp
    have hB := hp.below; have hXl := hp.len; have hk := hp.le
    clear hown0 hgrow0
    by_cases hkm : k < m.length
    · have RM := HM.out.below hB
      obtain ⟨b1, d1, e1, -, -, -, hcell⟩ := RM.view
      injection e1 with e1 e2 e3; subst e1 e3
      obtain ⟨g, of, rfl, hg, hcell⟩ := hcell k hkm
      clear e2
      rw [← List.getD_eq_getElem?_getD] at hcell
      have hx := hdm.getD BB_pos k
      have HS := Lib.hid (fun wr' => hp.step (wr' := wr') hkm hn1 rfl)
      generalize m.getD k 0 = x at hcell hx HS
      have HO := hp.own
      rw [show n = k + (n - k) by omega] at HO
      have RL := (Rd.mono HL.out (N' := fun g => g ≠ w.heap.size) (fun g hg _ => Nat.ne_of_lt hg)).below hB
      have HC := Lib.hid (row_any HO RL (by omega) (by omega) (by omega) hdl hp.dig hx)
      rw [show k + (n - k) = n by omega] at HC
      clear hp HO RL
      go_wp2_with (go_at_call 46; refine HC.out.mono ?_; rintro e w1 ⟨rfl, hr⟩; obtain ⟨X1, hp1⟩ := HS.out w1 hr; clear hr)
      go_round
      case rel => exact ⟨k + 1, X1, by go_num, hp1⟩
      case measure => simp [intOf]; omega
    · have hkm' : k = m.length := by omega
      have E : strip X = digs BB (val BB l * val BB m) := by rw [strip_eq BB_two hp.dig, hp.sum, hkm', List.take_length]
      have RX : RdN _ _ X := Rd.of_own hp.own (fun _ _ => trivial)
      clear hp
      go_wp2_with (go_at_call 23; refine (bare_any RX ?_).mono ?_; (focus omega); rintro e w3 ⟨v3, rfl, hr, hb3⟩)
      go_ret
      rw [E] at hr
      exact ⟨_, rfl, hr, hB.trans (hb3.mono hB.size)⟩
end Go.Proofs.YtnoelffaccekjaaDoor
