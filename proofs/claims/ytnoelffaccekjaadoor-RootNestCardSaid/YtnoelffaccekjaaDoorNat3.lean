/- nat.Add by its contract. Conditions: the lists are short. -/
import Derived.Test.YtnoelffaccekjaaDoorNat2
import Derived.Laws.Externs
namespace Go.Proofs.YtnoelffaccekjaaDoor
open Go.RowKit

theorem run_add (x y c : Nat) (hc : c ≤ 1) (w : World) :
    (callFunc 38 #[.int .u64 x, .int .u64 y, .int .u64 c]).run Tryd.prog w =
      .ok (.value (.tuple #[.int .u64 (((x + y + c) % 18446744073709551616 : Nat) : Int), .int .u64 (((x + y + c) / 18446744073709551616 : Nat) : Int)])) w := by
  rw [run_callFunc_extern Tryd.func38 (by kernel_rfl) (by kernel_rfl) (by kernel_rfl) (e := add64Entry) (by kernel_rfl), run_add64 x y c (by omega) (by omega) (by omega) (by omega)]
  simp only [Result.andThen]
  congr 5 <;> omega

theorem made_zero (n : Nat) : (madeCells (Value.int .u64 0).cells (n * 1)).toList = (List.replicate n 0).map L64 := by
  rw [List.map_replicate]
  simp [madeCells, Value.cells, Nat.mod_one]
  exact List.ext_getElem (by simp) (by simp)

/-- The loop's relation in Add: the places below k are done. -/
def AddRel (w : World) (B n : Nat) (l m : List Nat) (k cy : Nat) (X : List Nat) (wr : World) : Prop :=
  k ≤ n ∧ cy ≤ 1 ∧ X.length = n ∧ Dig BB X ∧ val BB (X.take k) + BB ^ k * cy = val BB (l.take k) + val BB (m.take k) ∧
  wr.ownsRow w.heap.size 33 1 (.slice (some ⟨B, 0, none⟩) n n) n (X.map L64) ∧ Below w.heap.size w wr

theorem AddRel.step {w : World} {n : Nat} {l m : List Nat} {k cy : Nat} {X : List Nat} {wr : World} (hl : Dig BB l) (hm : Dig BB m) (h : AddRel w w.heap.size n l m k cy X wr) (hkn : k < n) :
    AddRel w w.heap.size n l m (k + 1) ((l.getD k 0 + m.getD k 0 + cy) / BB) (X.set k ((l.getD k 0 + m.getD k 0 + cy) % BB)) (wr.setCell ⟨w.heap.size, k, none⟩ (L64 ((l.getD k 0 + m.getD k 0 + cy) % BB))) := by
  obtain ⟨hk, hcy, hX, hd, hv, how, hB⟩ := h
  have a1 := hl.getD BB_pos k
  have a2 := hm.getD BB_pos k
  have hx : (l.getD k 0 + m.getD k 0 + cy) % BB < BB := Nat.mod_lt _ BB_pos
  have hq : (l.getD k 0 + m.getD k 0 + cy) / BB ≤ 1 := by
    rw [Nat.div_le_iff_le_mul_add_pred BB_pos]; omega
  refine ⟨hkn, hq, by simpa using hX, hd.set k hx, ?_, ?_, hB.setCell (Nat.le_refl _) _⟩
  · rw [val_set_take BB X k _ (by omega), val_take_succ, val_take_succ]
    have e := Nat.mod_add_div (l.getD k 0 + m.getD k 0 + cy) BB
    have e2 : BB ^ k * ((l.getD k 0 + m.getD k 0 + cy) % BB) + BB ^ (k + 1) * ((l.getD k 0 + m.getD k 0 + cy) / BB) = BB ^ k * (l.getD k 0) + BB ^ k * (m.getD k 0) + BB ^ k * cy := by
      rw [Nat.pow_succ, Nat.mul_assoc, ← Nat.mul_add, e, Nat.mul_add, Nat.mul_add]
    omega
  · rw [List.map_set]
    exact (how.stored k _).1

theorem add_top {b : Nat} (hb : 2 ≤ b) {l m X : List Nat} {p cy : Nat} (hl : Dig b l) (hm : Dig b m) (h1 : l.length ≤ p) (h2 : m.length ≤ p) (hv : val b X + b ^ (p + 1) * cy = val b l + val b m) (hcy : cy ≤ 1) :
    val b X = val b l + val b m := by
  have b1 := val_lt hl
  have b2 := val_lt hm
  have c1 : b ^ l.length ≤ b ^ p := Nat.pow_le_pow_right (by omega) h1
  have c2 : b ^ m.length ≤ b ^ p := Nat.pow_le_pow_right (by omega) h2
  have c3 : b ^ (p + 1) = b ^ p * b := Nat.pow_succ ..
  have c4 : b ^ p * 2 ≤ b ^ p * b := Nat.mul_le_mul_left _ hb
  rcases (by omega : cy = 0 ∨ cy = 1) with h | h
  · subst h; simpa using hv
  · subst h; omega

theorem AddRel.fin {w : World} {n : Nat} {l m : List Nat} {cy : Nat} {X : List Nat} {wr : World} (hl : Dig BB l) (hm : Dig BB m) (h : AddRel w w.heap.size n l m n cy X wr) (h1 : l.length < n) (h2 : m.length < n) :
    strip X = digs BB (val BB l + val BB m) := by
  obtain ⟨hk, hcy, hX, hd, hv, how, hB⟩ := h
  rw [val_take_ge BB X n (by omega), val_take_ge BB l n (by omega), val_take_ge BB m n (by omega)] at hv
  rw [strip_eq BB_two hd, add_top (p := n - 1) BB_two hl hm (by omega) (by omega) (by rw [show n - 1 + 1 = n by omega]; exact hv) hcy]

set_option maxHeartbeats 400000 in
theorem add_any {w : World} {v u : Value} {l m : List Nat} (hl : RdN w v l) (hm : RdN w u m) (hdl : Dig BB l) (hdm : Dig BB m) (h1 : l.length ≤ 50000) (h2 : m.length ≤ 50000) :
    Calls Tryd.prog 18 #[v, u] w (One w (digs BB (val BB l + val BB m))) := by
  obtain ⟨a, c, rfl, hac, hc, -, -⟩ := hl.view
  obtain ⟨b, d, rfl, hbc, hd, -, -⟩ := hm.view
  obtain ⟨i0, hi, hz0, hz1, hz2⟩ := info_parts infoU
  have HL := Lib.hid hl; have HM := Lib.hid hm; clear hl hm
  obtain ⟨n, hn, hn1, hn2, hn3⟩ : ∃ n : Nat, ((if l.length < m.length then (m.length : Int) else (l.length : Int)) + 1) = (n : Int) ∧ l.length < n ∧ m.length < n ∧ n ≤ 50001 :=
    ⟨(if l.length < m.length then m.length else l.length) + 1, by split <;> simp, by split <;> omega, by split <;> omega, by split <;> omega⟩
  go_enter Tryd.func18, Tryd.ntmps18
  go_wp2_with (at_make; go_loud (refine wpList_make_full _ rfl (.tmp 13) (.tmp 13) 22 rfl w.heap.size 33 i0 (.int .u64 0) 1 Tryd.underlying22 hi hz0 hz1 .i64 .i64 n n n ?_ ?_ rfl rfl ?_ ?_ ?_ ?_; (any_goals (first | rfl | (rw [hz2]; omega) | (unfold maxLen; omega) | (with_reducible exact Nat.le_refl _))); intro w0 hown0 hgrow0))
  all_goals
    go_loopw [17, 6] (fun i cy wr => ∃ (k cy' : Nat) (X : List Nat), i = .int .i64 k ∧ cy = L64 cy' ∧ AddRel w w.heap.size n l m k cy' X wr) (fun i _ _ => n - (intOf i).toNat)
    case atStart =>
      refine ⟨0, 0, List.replicate n 0, rfl, rfl, Nat.zero_le _, by omega, by simp, Dig.replicate BB_pos n, by simp, ?_, (Below.refl _ _).grown hgrow0 (Nat.le_refl _) (by simp)⟩
      rw [← made_zero]
      exact hown0
    case round =>
      obtain ⟨k, cy, X, rfl, rfl, hk, hcy, hX, hd, hv, how, hB⟩ := hrel
      have HR := Lib.hid (show AddRel w w.heap.size n l m k cy X _ from ⟨hk, hcy, hX, hd, hv, how, hB⟩); have HOW := Lib.hid how; have HV := Lib.hid hv; have HD := Lib.hid hd
      clear how hv hd hown0 hgrow0
      by_cases hkn : k < n
      · have RL := HL.out.below hB
        have RM := HM.out.below hB
        have hca := HOW.out.cellAt k (by omega)
        rw [List.getElem?_map, List.getElem?_eq_getElem (by omega), Option.map_some] at hca
        have hfr := HOW.out.frozenAt k
        generalize X[k] = x0 at hca
        have hstep : ∀ A C cy : Nat, val BB (X.take k) + BB ^ k * cy = val BB (l.take k) + val BB (m.take k) → True := fun _ _ _ _ => trivial
        clear hstep
        go_wp2_with (first
          | (go_at_call 39; ((with_reducible refine (limb_nat RL ?_).mono ?_)); (focus omega); rintro e w1 ⟨rfl, rfl⟩)
          | (go_at_call 39; ((with_reducible refine (limb_nat RM ?_).mono ?_)); (focus omega); rintro e w2 ⟨rfl, rfl⟩)
          | simp only [run_add _ _ _ hcy])
        go_round
        case rel =>
          exact ⟨k + 1, (l.getD k 0 + m.getD k 0 + cy) / BB, X.set k ((l.getD k 0 + m.getD k 0 + cy) % BB), by go_num, by simp [BB], by
            have := AddRel.step hdl hdm HR.out hkn
            simpa [BB, L64, Int.natCast_emod, Int.natCast_add] using this⟩
        case measure => simp [intOf]; omega
      · have hkn' : k = n := by omega
        have E := AddRel.fin hdl hdm (by rw [hkn'] at HR; exact HR.out) hn1 hn2
        have RX : RdN _ _ X := Rd.of_own HOW.out (fun _ _ => trivial)
        go_wp2_with (go_at_call 23; refine (bare_any RX ?_).mono ?_; (focus omega); rintro e w3 ⟨v3, rfl, hr, hb3⟩)
        go_ret
        rw [E] at hr
        exact ⟨_, rfl, hr, hB.trans (hb3.mono hB.size)⟩
end Go.Proofs.YtnoelffaccekjaaDoor
