/- The document's numbers as limbs again: Of by its contract. Conditions: the list is short, the digits are digits. -/
import Derived.Test.YtnoelffaccekjaaDoorRef2
import Derived.StillTailTactics
namespace Go.Proofs.YtnoelffaccekjaaDoor
open Go.RowKit

/-- What stands in limb j when the digits below p are still to come. -/
def seg (l : List Nat) (p j : Nat) : Nat := val DD ((l.take (4 * j + 4)).drop (max p (4 * j)))
/-- All limbs then. -/
def ofP (l : List Nat) (p N : Nat) : List Nat := (List.range N).map (seg l p)

theorem val_drop_succ (B : Nat) (l : List Nat) (k : Nat) (h : k < l.length) : val B (l.drop k) = l.getD k 0 + B * val B (l.drop (k + 1)) := by
  rw [List.drop_eq_getElem_cons h, val_cons, getD_lt h]

theorem seg_lt {l : List Nat} (hd : Dig DD l) (p j : Nat) : seg l p j < BB := by
  unfold seg
  have h1 := val_lt ((hd.take (4 * j + 4)).drop (max p (4 * j)))
  rw [BB_DD]
  refine Nat.lt_of_lt_of_le h1 (Nat.pow_le_pow_right DD_pos ?_)
  rw [List.length_drop, List.length_take]; omega

theorem seg_same {l : List Nat} {i j : Nat} (hi : i < l.length) (hj : j = i / 4) : seg l i j = l.getD i 0 + DD * seg l (i + 1) j := by
  unfold seg
  rw [Nat.max_eq_left (by omega), Nat.max_eq_left (by omega), val_drop_succ _ _ _ (by rw [List.length_take]; omega)]
  congr 1
  rw [List.getD_eq_getElem?_getD, List.getElem?_take_of_lt (by omega), ← List.getD_eq_getElem?_getD]

theorem seg_other {l : List Nat} {i j : Nat} (hj : j ≠ i / 4) : seg l i j = seg l (i + 1) j := by
  unfold seg
  by_cases h : i < 4 * j
  · rw [Nat.max_eq_right (by omega), Nat.max_eq_right (by omega)]
  · rw [List.drop_eq_nil_of_le (by rw [List.length_take]; omega), List.drop_eq_nil_of_le (by rw [List.length_take]; omega)]

theorem ofP_len (l : List Nat) (p N : Nat) : (ofP l p N).length = N := by simp [ofP]
theorem ofP_get (l : List Nat) (p N : Nat) {j : Nat} (h : j < N) : (ofP l p N)[j]? = some (seg l p j) := by simp [ofP, h]

theorem ofP_step {l : List Nat} {i N : Nat} (hi : i < l.length) : (ofP l (i + 1) N).set (i / 4) (seg l (i + 1) (i / 4) * DD + l.getD i 0) = ofP l i N := by
  apply List.ext_getElem?
  intro j
  by_cases hj : j < N
  · rw [ofP_get l i N hj]
    by_cases he : j = i / 4
    · subst he
      rw [List.getElem?_set_self (by rw [ofP_len]; exact hj), seg_same hi rfl, Nat.mul_comm, Nat.add_comm]
    · rw [List.getElem?_set_ne (fun h => he h.symm), ofP_get _ _ _ hj, seg_other he]
  · rw [List.getElem?_eq_none (by rw [List.length_set, ofP_len]; omega), List.getElem?_eq_none (by rw [ofP_len]; omega)]

theorem ofP_start {l : List Nat} (N : Nat) : ofP l l.length N = List.replicate N 0 := by
  apply List.ext_getElem?
  intro j
  by_cases hj : j < N
  · rw [ofP_get _ _ _ hj, List.getElem?_replicate, if_pos hj]
    unfold seg
    rw [List.drop_eq_nil_of_le (by rw [List.length_take]; omega)]; rfl
  · rw [List.getElem?_eq_none (by rw [ofP_len]; omega), List.getElem?_eq_none (by rw [List.length_replicate]; omega)]

theorem val_take_drop' (B : Nat) (l : List Nat) (k : Nat) : val B l = val B (l.take k) + B ^ k * val B (l.drop k) := by
  by_cases hk : k ≤ l.length
  · exact val_take_drop B l k hk
  · rw [List.take_of_length_le (by omega), List.drop_eq_nil_of_le (by omega)]; simp

theorem ofP_val_take (l : List Nat) (N : Nat) : ∀ k, k ≤ N → val BB ((ofP l 0 N).take k) = val DD (l.take (4 * k))
  | 0, _ => by simp
  | k + 1, hk => by
    have ih := ofP_val_take l N k (by omega)
    have e := val_take_drop' DD (l.take (4 * k + 4)) (4 * k)
    rw [val_take_succ, ih, List.getD_eq_getElem?_getD, ofP_get _ _ _ (by omega), Option.getD_some, show 4 * (k + 1) = 4 * k + 4 by omega, e, List.take_take, Nat.min_eq_left (by omega), BB_DD, ← Nat.pow_mul]
    unfold seg
    rw [Nat.max_eq_right (Nat.zero_le _)]

theorem ofP_val {l : List Nat} {N : Nat} (h : l.length ≤ 4 * N) : val BB (ofP l 0 N) = val DD l := by
  have := ofP_val_take l N N (Nat.le_refl _)
  rw [List.take_of_length_le (by rw [ofP_len]; exact Nat.le_refl _), List.take_of_length_le h] at this
  exact this

theorem ofP_dig {l : List Nat} (hd : Dig DD l) (p N : Nat) : Dig BB (ofP l p N) := by
  intro x hx
  obtain ⟨j, -, rfl⟩ := List.mem_map.1 hx
  exact seg_lt hd p j

theorem ofP_digs (n : Nat) : ofP (digs DD n) 0 (((digs DD n).length + 3) / 4) = digs BB n := by
  have hd := dig_digs DD_two n
  have hv := ofP_val (l := digs DD n) (N := ((digs DD n).length + 3) / 4) (by omega)
  have hlow := digs_low DD_two n
  rw [val_digs DD_two] at hv
  have := full_digs BB_two (ofP_dig hd 0 (((digs DD n).length + 3) / 4)) (by
    rw [ofP_len, hv]
    by_cases h0 : (digs DD n).length = 0
    · left; omega
    · right
      have h1 := hlow ((digs DD n).length - 1) (by omega)
      refine Nat.le_trans ?_ h1
      rw [BB_DD, ← Nat.pow_mul]
      exact Nat.pow_le_pow_right DD_pos (by omega))
  rw [hv] at this
  exact this

/-- The loop's relation in Of. -/
structure OfRel (w : World) (l : List Nat) (N p : Nat) (wr : World) : Prop where
  le : p ≤ l.length
  own : wr.ownsRow w.heap.size 33 1 (.slice (some ⟨w.heap.size, 0, none⟩) N N) N ((ofP l p N).map L64)
  below : Below w.heap.size w wr

theorem OfRel.step {w wr : World} {l : List Nat} {N i : Nat} (h : OfRel w l N (i + 1) wr) : OfRel w l N i (wr.setCell ⟨w.heap.size, i / 4, none⟩ (L64 (seg l (i + 1) (i / 4) * DD + l.getD i 0))) :=
  ⟨Nat.le_of_succ_le h.le, by
    rw [← ofP_step h.le, List.map_set]
    exact (h.own.stored _ _).1, h.below.setCell (Nat.le_refl _) _⟩

theorem OfRel.drew {w wr : World} {l : List Nat} {N p : Nat} (h : OfRel w l N p wr) : OfRel w l N p wr.drew := ⟨h.le, h.own.drew, h.below.drew⟩

set_option maxHeartbeats 800000 in
theorem rof_any {w : World} {v : Value} {n : Nat} (h : RdD w v (digs DD n)) (hl : (digs DD n).length ≤ 1000000) :
    Calls Tryd.prog 30 #[v] w (One w (digs BB n)) := by
  obtain ⟨i0, hi, hz0, hz1, hz2⟩ := info_parts infoU
  have dA := dig_digs DD_two n
  have E := ofP_digs n
  generalize digs DD n = l at *
  obtain ⟨a, c, rfl, h2, h3, h4, -⟩ := h.view
  have HL := Lib.hid h; clear h
  rw [← E]
  clear E
  obtain ⟨N, hN, hN'⟩ : ∃ N : Nat, ((l.length : Int) + 3) / 4 = (N : Int) ∧ (l.length + 3) / 4 = N := ⟨_, by simp, rfl⟩
  rw [hN']
  go_enter Tryd.func30, Tryd.ntmps30
  go_wp2_with (at_make; go_loud (refine wpList_make_full _ rfl (.tmp 8) (.tmp 8) 22 rfl w.heap.size 33 i0 (.int .u64 0) 1 Tryd.underlying22 hi hz0 hz1 .i64 .i64 (((l.length : Int) + 3) / 4) (((l.length : Int) + 3) / 4) N rfl rfl hN hN ?_ ?_ ?_ ?_; (any_goals (first | rfl | (rw [hz2]; omega) | (unfold maxLen; omega) | (with_reducible exact Nat.le_refl _))); intro w0 hown0 hgrow0))
  rw [made_zero, ← ofP_start (l := l)] at hown0
  have hst : OfRel w l N l.length w0 := ⟨Nat.le_refl _, hown0, (Below.refl _ _).grown hgrow0 (Nat.le_refl _) (by simp)⟩
  have HST := Lib.hid hst; clear hst hown0 hgrow0
  go_loopw [4] (fun i wr => ∃ (p : Nat) (q : Int), i = .int .i64 q ∧ q + 1 = p ∧ OfRel w l N p wr) (fun i _ => (intOf i + 1).toNat)
  case atStart => exact ⟨l.length, _, rfl, by omega, HST.out⟩
  case round =>
    obtain ⟨p, q, rfl, hq, hR⟩ := hrel
    have HR := Lib.hid hR
    have hp := hR.le
    have hB := hR.below
    clear hR
    by_cases hp0 : p = 0
    · obtain rfl : q = -1 := by omega
      subst hp0
      have RX : RdN _ _ (ofP l 0 N) := Rd.of_own HR.out.own (fun _ _ => trivial)
      go_wp2
      go_ret
      exact ⟨_, rfl, RX, hB⟩
    · obtain ⟨i, rfl⟩ : ∃ i, p = i + 1 := ⟨p - 1, by omega⟩
      obtain rfl : q = (i : Int) := by omega
      have hil : i < l.length := hp
      obtain ⟨a1, c1, e1, -, -, -, hcx⟩ := (HL.out.below hB).view
      injection e1 with e1 e2 e3; subst e1 e3
      obtain ⟨g, of, rfl, hg, hcx⟩ := hcx i hil
      rw [← List.getD_eq_getElem?_getD] at hcx
      clear e2
      have hsl := seg_lt dA i (i / 4)
      rw [seg_same hil rfl] at hsl
      have hsx := seg_lt dA (i + 1) (i / 4)
      have hx := dA.getD DD_pos i
      have hca := HR.out.own.cellAt (i / 4) (by omega)
      rw [List.getElem?_map, ofP_get _ _ _ (by omega), Option.map_some] at hca
      have hfr := HR.out.own.frozenAt (i / 4)
      have HS := Lib.hid HR.out.drew.step
      generalize l.getD i 0 = x at *
      generalize seg l (i + 1) (i / 4) = s at *
      unfold BB DD at hsl
      unfold BB at hsx
      unfold DD at hx
      obtain ⟨j, hj⟩ : ∃ j, i / 4 = j := ⟨_, rfl⟩
      have hj2 : (i : Int) / 4 = (j : Int) := by omega
      have hjN : j < N := by omega
      rw [hj] at hca hfr HS
      have W1 : IntKind.i64.wrap (j : Int) = (j : Int) := by rw [IntKind.wrap_i64]; omega
      have W2 : IntKind.u64.wrap ((s : Int) * 65536) = (s : Int) * 65536 := by rw [IntKind.wrap_u64]; omega
      have W3 : IntKind.u64.wrap (x : Int) = (x : Int) := by rw [IntKind.wrap_u64]; omega
      have W4 : IntKind.u64.wrap ((s : Int) * 65536 + (x : Int)) = (s : Int) * 65536 + (x : Int) := by rw [IntKind.wrap_u64]; omega
      go_wp2_with fail
      go_still_tail 15, (by kernel_rfl)
      change wpList _ _ _ _ _ wr.drew
      have hfr2 : wr.drew.frozen? ⟨w.heap.size, j, none⟩ = false := hfr
      have hca2 : wr.drew.cell? ⟨w.heap.size, j, none⟩ = some (L64 s) := hca
      clear hfr hca
      have hsz : w.heap.size ≤ wr.drew.heap.size := hB.size
      generalize wr.drew = w2 at *
      go_wp2
      go_round
      case rel => exact ⟨i, (i : Int) - 1, rfl, by omega, HS.out⟩
      case measure => simp [intOf]
end Go.Proofs.YtnoelffaccekjaaDoor
