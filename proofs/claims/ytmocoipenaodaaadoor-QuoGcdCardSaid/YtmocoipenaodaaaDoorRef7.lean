/- The document's Sub by its contract. Conditions: the lists are short, the first number isn't nought nor less than the second. -/
import Derived.Test.YtmocoipenaodaaaDoorRef6
namespace Go.Proofs.YtmocoipenaodaaaDoor
open Go.RowKit

theorem own_form {w : World} {base : Nat} {e : TypeId} {v : Value} {n : Nat} {xs : List Value} (h : w.ownsRow base e 1 v n xs) (hn : 0 < n) : ∃ g cap, base ≤ g ∧ v = .slice (some ⟨g, 0, none⟩) n cap ∧ n ≤ cap ∧ cap ≤ 9223372036854775807 ∧ g < w.heap.size := by
  have hl := h.1
  rcases h.2 with ⟨rfl, rfl⟩ | ⟨g, cap, cur, rfl, h2, h3, h4, h5, -⟩
  · simp at hl; omega
  · refine ⟨g, cap, h2, rfl, by omega, by unfold maxLen at h5; omega, ?_⟩
    rcases Nat.lt_or_ge g w.heap.size with h | h
    · exact h
    · simp [Array.getElem?_eq_none h] at h3

/-- The loop's relation in Sub. -/
structure RSub (w : World) (l m : List Nat) (g cap k bw : Nat) (X : List Nat) (wr : World) : Prop where
  le : k ≤ l.length
  bw1 : bw ≤ 1
  len : X.length = l.length
  dig : Dig DD X
  above : ∀ j, k ≤ j → X.getD j 0 = l.getD j 0
  sum : val DD (X.take k) + val DD (m.take k) = val DD (l.take k) + DD ^ k * bw
  own : wr.ownsRow w.heap.size 46 1 (.slice (some ⟨g, 0, none⟩) l.length cap) l.length (X.map D32)
  below : Below w.heap.size w wr

theorem RSub.step {w wr : World} {l m : List Nat} {g cap k bw x bw' : Nat} {X : List Nat} (h : RSub w l m g cap k bw X wr) (hk : k < l.length) (hb : bw' ≤ 1) (hx : x < DD) (he : x + (bw + m.getD k 0) = l.getD k 0 + DD * bw') {wr' : World}
    (ho : wr'.ownsRow w.heap.size 46 1 (.slice (some ⟨g, 0, none⟩) l.length cap) l.length ((X.set k x).map D32)) (hw : Below w.heap.size w wr') : RSub w l m g cap (k + 1) bw' (X.set k x) wr' := by
  refine ⟨hk, hb, by rw [List.length_set]; exact h.len, h.dig.set _ hx, fun j hj => by rw [getD_set_ne (by omega)]; exact h.above j (by omega), ?_, ho, hw⟩
  have hs := h.sum
  have e2 := congrArg (DD ^ k * ·) he
  simp only [Nat.mul_add] at e2
  rw [val_set_take DD X _ _ (by rw [h.len]; exact hk), val_take_succ, val_take_succ, Nat.pow_succ, Nat.mul_assoc]
  omega

theorem RSub.fin {w wr : World} {A B g cap bw : Nat} {X : List Nat} (h : RSub w (digs DD A) (digs DD B) g cap (digs DD A).length bw X wr) (hB : B ≤ A) : strip X = digs DD (A - B) := by
  have hs := h.sum
  have hml : (digs DD B).length ≤ (digs DD A).length := (digs_length_le DD_two _ _).2 (Nat.lt_of_le_of_lt hB ((digs_length_le DD_two _ _).1 (Nat.le_refl _)))
  have e1 : X.take (digs DD A).length = X := by rw [← h.len, List.take_length]
  rw [e1, val_take_ge DD _ _ hml, List.take_length, val_digs DD_two, val_digs DD_two] at hs
  have hlt := val_lt h.dig
  rw [h.len] at hlt
  have h0 : bw = 0 := by
    rcases Nat.eq_zero_or_pos bw with h | h
    · exact h
    · have := Nat.mul_le_mul_left (DD ^ (digs DD A).length) h
      omega
  rw [h0, Nat.mul_zero, Nat.add_zero] at hs
  rw [strip_eq DD_two h.dig, show val DD X = A - B by omega]

set_option maxHeartbeats 1000000 in
theorem rsub_any {w : World} {v u : Value} {A B : Nat} (h : RdD w v (digs DD A)) (k : RdD w u (digs DD B)) (hl : (digs DD A).length ≤ 1000000) (hB : B ≤ A) (h0 : 0 < A) :
    Calls Tryd.prog 31 #[v, u] w (OneD w (digs DD (A - B))) := by
  obtain ⟨i0, hi, hz0, hz1, hz2⟩ := info_parts infoD
  have dA := dig_digs DD_two A
  have dB := dig_digs DD_two B
  have hlp : 0 < (digs DD A).length := List.length_pos_iff.2 (fun e => by have := (digs_nil_iff DD_two A).1 e; omega)
  have HF := Lib.hid (fun (w wr : World) (g cap bw : Nat) (X : List Nat) (h : RSub w (digs DD A) (digs DD B) g cap (digs DD A).length bw X wr) => h.fin hB)
  generalize digs DD A = l at *
  generalize digs DD B = m at *
  generalize A - B = C at *
  clear hB h0
  obtain ⟨a, c, rfl, h2, h3, h4, -⟩ := h.view
  obtain ⟨b, d, rfl, h2', h3', h4', -⟩ := k.view
  have HL := Lib.hid h; have HM := Lib.hid k; clear h k
  go_enter Tryd.func31, Tryd.ntmps31
  go_wp2_with (at_builtin; go_loud (refine wpList_append_rd (N := fun _ => True) (xs := []) (ys := l.map D32) (n := 0) rfl (.tmp 9) (.tmp 10) 25 rfl w.heap.size 46 i0 (.int .u32 0) 4 Tryd.underlying25 hi hz0 hz1 hz2 rfl rfl rfl (own_zero (heap_alloc_new _ _) (Nat.le_refl _)) (HL.out.keep (S := fun _ => False) ((Fr.refl _ _).alloc _) (fun _ _ h => h)) (one32 _) (by rw [List.length_map]; unfold maxLen; omega) (by rw [List.length_map]; omega) (by simp) ?_; intro v1 w1 own1 hg1))
  rw [List.length_map] at own1
  simp only [List.nil_append, Nat.zero_add] at own1
  obtain ⟨g, cap, hg0, rfl, hcap, hcap2, hgl⟩ := own_form own1 hlp
  have HST := Lib.hid (show RSub w l m g cap 0 0 l w1 from ⟨Nat.zero_le _, Nat.zero_le _, rfl, dA, fun _ _ => rfl, by simp, own1, ((Below.refl _ _).alloc (Nat.le_refl _) _).grown hg1 (by simp) (fun k hk => by simp [Value.ownBlock, Act.eval] at hk; omega)⟩)
  clear own1 hg1
  go_loopw [6, 7] (fun bw i wr => ∃ (k bw' : Nat) (X : List Nat), i = .int .i64 k ∧ bw = D32 bw' ∧ RSub w l m g cap k bw' X wr) (fun _ i _ => l.length - (intOf i).toNat)
  case atStart => exact ⟨0, 0, l, rfl, rfl, HST.out⟩
  case round =>
    obtain ⟨k, bw, X, rfl, rfl, hR⟩ := hrel
    have HR := Lib.hid hR
    have hk := hR.le; have hbw := hR.bw1; have hB := hR.below; have hXl := hR.len
    by_cases hkl : k < l.length
    · have hca := hR.own.cellAt k (by omega)
      rw [List.getElem?_map, List.getElem?_eq_getElem (by omega), Option.map_some, ← getD_lt, hR.above k (Nat.le_refl _)] at hca
      have hfr := hR.own.frozenAt k
      have hx := dA.getD DD_pos k; have hy := dB.getD DD_pos k
      unfold DD at hx hy
      have HNext := Lib.hid (fun (x' bw' : Nat) (wr' : World) (h1 : bw' ≤ 1) (h2 : x' < DD) (h3 : x' + (bw + m.getD k 0) = l.getD k 0 + DD * bw') (ho : wr'.ownsRow w.heap.size 46 1 (.slice (some ⟨g, 0, none⟩) l.length cap) l.length ((X.set k x').map D32)) (hw : Below w.heap.size w wr') => hR.step hkl h1 h2 h3 ho hw)
      have HS1 := Lib.hid (fun (x' : Nat) => show (wr.setCell ⟨g, k, none⟩ (D32 x')).ownsRow w.heap.size 46 1 (.slice (some ⟨g, 0, none⟩) l.length cap) l.length ((X.set k x').map D32) from by rw [List.map_set]; exact (hR.own.stored k _).1)
      have HS2 := Lib.hid (fun (x' y' : Nat) => show ((wr.setCell ⟨g, k, none⟩ (D32 y')).setCell ⟨g, k, none⟩ (D32 x')).ownsRow w.heap.size 46 1 (.slice (some ⟨g, 0, none⟩) l.length cap) l.length ((X.set k x').map D32) from by
        have := ((hR.own.stored k (D32 y')).1.stored k (D32 x')).1
        rw [← List.map_set, ← List.map_set, List.set_set] at this
        exact this)
      clear hR
      by_cases hkm : k < m.length
      · obtain ⟨a2, c2, f1, -, -, -, hcy⟩ := (HM.out.below hB).view
        injection f1 with f1 f2 f3; subst f1 f3
        obtain ⟨g', of', rfl, hg', hcy⟩ := hcy k hkm
        rw [← List.getD_eq_getElem?_getD] at hcy
        clear f2
        generalize m.getD k 0 = y at *
        generalize l.getD k 0 = x at *
        by_cases hlt : x < bw + y
        · go_wp2
          go_round
          case rel =>
            have e1 : (x : Int) + 65536 - ((bw : Int) + (y : Int)) = ((x + 65536 - (bw + y) : Nat) : Int) := by omega
            rw [e1]
            exact ⟨k + 1, 1, _, by go_num, rfl, HNext.out _ 1 _ (Nat.le_refl _) (by unfold DD; omega) (by unfold DD; omega) (HS2.out _ (x + 65536)) ((hB.setCell (p := ⟨g, k, none⟩) hg0 _).setCell (p := ⟨g, k, none⟩) hg0 _)⟩
          case measure => simp [intOf]; omega
        · go_wp2
          go_round
          case rel =>
            have e1 : (x : Int) - ((bw : Int) + (y : Int)) = ((x - (bw + y) : Nat) : Int) := by omega
            rw [e1]
            exact ⟨k + 1, 0, _, by go_num, rfl, HNext.out _ 0 _ (Nat.zero_le _) (by unfold DD; omega) (by omega) (HS1.out _) (hB.setCell (p := ⟨g, k, none⟩) hg0 _)⟩
          case measure => simp [intOf]; omega
      · have z : m.getD k 0 = 0 := by rw [List.getD_eq_getElem?_getD, List.getElem?_eq_none (by omega)]; rfl
        rw [z] at HNext
        clear hy z
        generalize l.getD k 0 = x at *
        by_cases hlt : x < bw
        · go_wp2
          go_round
          case rel =>
            have e1 : (x : Int) + 65536 - (bw : Int) = ((x + 65536 - bw : Nat) : Int) := by omega
            rw [e1]
            exact ⟨k + 1, 1, _, by go_num, rfl, HNext.out _ 1 _ (Nat.le_refl _) (by unfold DD; omega) (by unfold DD; omega) (HS2.out _ (x + 65536)) ((hB.setCell (p := ⟨g, k, none⟩) hg0 _).setCell (p := ⟨g, k, none⟩) hg0 _)⟩
          case measure => simp [intOf]; omega
        · go_wp2
          go_round
          case rel =>
            have e1 : (x : Int) - (bw : Int) = ((x - bw : Nat) : Int) := by omega
            rw [e1]
            exact ⟨k + 1, 0, _, by go_num, rfl, HNext.out _ 0 _ (Nat.zero_le _) (by unfold DD; omega) (by omega) (HS1.out _) (hB.setCell (p := ⟨g, k, none⟩) hg0 _)⟩
          case measure => simp [intOf]; omega
    · have hkl2 : k = l.length := by omega
      subst hkl2
      have E := HF.out _ _ _ _ _ _ hR
      have RX : RdD _ _ X := Rd.of_own hR.own (fun _ _ => trivial)
      clear hR
      go_wp2_with (go_at_call 24; (with_reducible refine (norm_any RX ?_).mono ?_); (focus omega); rintro e w2 ⟨v2, rfl, hr2, hb2⟩)
      go_ret
      rw [E] at hr2
      exact ⟨_, rfl, hr2, hB.trans (hb2.mono hB.size)⟩
end Go.Proofs.YtmocoipenaodaaaDoor
