/- What a mailbox is in memory, and what stores into it do to that. Conditions: none. -/
import Derived.Test.YtdcjpgpeedboaaaSel
namespace Go.Proofs.Ytdcjpgpeedboaaa
open Go.Conc Go.RowKit

theorem heap_setCell_same {w : World} {b j : Nat} {c : Array Value} {T : TypeId} {fz : Nat × Nat} (h : w.heap[b]? = some (.cells c T fz)) (v : Value) :
    (w.setCell ⟨b, j, none⟩ v).heap[b]? = some (.cells (c.setIfInBounds j v) T fz) := by
  simp [World.setCell, Array.getElem?_modify, h]
theorem heap_setChan_other (w : World) (c c' cap : Nat) (buf : Array Value) (closed : Bool) (s r : Nat) (tm : Bool) (h : c ≠ c') : (w.setChan c cap buf closed s r tm).heap[c']? = w.heap[c']? := by
  simp [World.setChan, Array.getElem?_setIfInBounds_ne h]
theorem lt_of_at {w : World} {k : Nat} {o : Obj} (hk : w.heap[k]? = some o) : k < w.heap.size := by
  rcases Nat.lt_or_ge k w.heap.size with h | h
  · exact h
  · simp [Array.getElem?_eq_none h] at hk
theorem cell_of_at {w : World} {b j : Nat} {c : Array Value} {T : TypeId} {fz : Nat × Nat} (h : w.heap[b]? = some (.cells c T fz)) {v : Value} (hj : c[j]? = some v) : w.cell? ⟨b, j, none⟩ = some v := by
  simp [World.cell?, h, hj]
theorem free_of_at {w : World} {b j : Nat} {c : Array Value} {T : TypeId} (h : w.heap[b]? = some (.cells c T (0, 0))) : w.frozen? ⟨b, j, none⟩ = false := by
  simp [World.frozen?, h]

/-- A mailbox: its four cells, its two channels. -/
structure Box (T : TypeId) (b cu cp ku kp : Nat) (U Pl : List Value) (i o : Nat) (w : World) : Prop where
  blk : w.heap[b]? = some (.cells #[.chan (some cu), .chan (some cp), .int .i64 (i : Int), .int .i64 (o : Int)] T (0, 0))
  hu : ∃ s r, w.heap[cu]? = some (.chan ku ⟨U⟩ false s r false)
  hp : ∃ s r, w.heap[cp]? = some (.chan kp ⟨Pl⟩ false s r false)
  ne : cu ≠ cp

/-- The blocks of a mailbox. -/
def boxS (b cu cp : Nat) (k : Nat) : Prop := k = b ∨ k = cu ∨ k = cp

section
variable {T : TypeId} {b cu cp ku kp : Nat} {U Pl : List Value} {i o : Nat} {w w' : World}
theorem Box.nbu (h : Box T b cu cp ku kp U Pl i o w) : b ≠ cu := by
  rintro rfl; obtain ⟨s, r, hu⟩ := h.hu; have := h.blk; rw [hu] at this; cases this
theorem Box.nbp (h : Box T b cu cp ku kp U Pl i o w) : b ≠ cp := by
  rintro rfl; obtain ⟨s, r, hp⟩ := h.hp; have := h.blk; rw [hp] at this; cases this
theorem Box.keep {S : Nat → Prop} (h : Box T b cu cp ku kp U Pl i o w) (hf : Fr S w w') (hs : ∀ k, boxS b cu cp k → ¬ S k) : Box T b cu cp ku kp U Pl i o w' :=
  ⟨hf.at h.blk (hs _ (.inl rfl)), let ⟨s, r, hu⟩ := h.hu; ⟨s, r, hf.at hu (hs _ (.inr (.inl rfl)))⟩, let ⟨s, r, hp⟩ := h.hp; ⟨s, r, hf.at hp (hs _ (.inr (.inr rfl)))⟩, h.ne⟩
theorem Box.drew (h : Box T b cu cp ku kp U Pl i o w) : Box T b cu cp ku kp U Pl i o w.drew := ⟨h.blk, h.hu, h.hp, h.ne⟩
theorem Box.lt (h : Box T b cu cp ku kp U Pl i o w) {k : Nat} (hk : boxS b cu cp k) : k < w.heap.size := by
  obtain ⟨s, r, hu⟩ := h.hu
  obtain ⟨s', r', hp⟩ := h.hp
  rcases hk with rfl | rfl | rfl
  · exact lt_of_at h.blk
  · exact lt_of_at hu
  · exact lt_of_at hp
theorem Box.cell0 (h : Box T b cu cp ku kp U Pl i o w) : w.cell? ⟨b, 0, none⟩ = some (.chan (some cu)) := cell_of_at h.blk rfl
theorem Box.cell1 (h : Box T b cu cp ku kp U Pl i o w) : w.cell? ⟨b, 1, none⟩ = some (.chan (some cp)) := cell_of_at h.blk rfl
theorem Box.cell2 (h : Box T b cu cp ku kp U Pl i o w) : w.cell? ⟨b, 2, none⟩ = some (.int .i64 (i : Int)) := cell_of_at h.blk rfl
theorem Box.cell3 (h : Box T b cu cp ku kp U Pl i o w) : w.cell? ⟨b, 3, none⟩ = some (.int .i64 (o : Int)) := cell_of_at h.blk rfl
theorem Box.free (h : Box T b cu cp ku kp U Pl i o w) (j : Nat) : w.frozen? ⟨b, j, none⟩ = false := free_of_at h.blk

/-- What is known of the world behind a turn of the channel c. -/
theorem Box.blk_chan (h : Box T b cu cp ku kp U Pl i o w) {c : Nat} (hc : c = cu ∨ c = cp) (cap : Nat) (buf : Array Value) (s r : Nat) :
    (w.setChan c cap buf false s r false).heap[b]? = some (.cells #[.chan (some cu), .chan (some cp), .int .i64 (i : Int), .int .i64 (o : Int)] T (0, 0)) := by
  rw [heap_setChan_other _ _ _ _ _ _ _ _ _ (by rcases hc with rfl | rfl; exact h.nbu.symm; exact h.nbp.symm)]
  exact h.blk

theorem Box.turn_u (h : Box T b cu cp ku kp U Pl i o w) (U' : List Value) (s r j : Nat) (v : Int) (i' o' : Nat) (hv : #[Value.chan (some cu), .chan (some cp), .int .i64 (i : Int), .int .i64 (o : Int)].setIfInBounds j (.int .i64 v) = #[.chan (some cu), .chan (some cp), .int .i64 (i' : Int), .int .i64 (o' : Int)]) :
    Box T b cu cp ku kp U' Pl i' o' ((w.setChan cu ku ⟨U'⟩ false s r false).setCell ⟨b, j, none⟩ (.int .i64 v)) := by
  have h1 := h.blk_chan (.inl rfl) ku ⟨U'⟩ s r
  obtain ⟨s0, r0, hu⟩ := h.hu
  obtain ⟨s1, r1, hp⟩ := h.hp
  refine ⟨?_, ⟨s, r, ?_⟩, ⟨s1, r1, ?_⟩, h.ne⟩
  · rw [heap_setCell_same h1, hv]
  · rw [Below.heap_setCell _ _ _ _ (by exact h.nbu.symm)]
    exact heap_setChan _ _ _ _ _ _ _ _ (lt_of_at hu)
  · rw [Below.heap_setCell _ _ _ _ (by exact h.nbp.symm), heap_setChan_other _ _ _ _ _ _ _ _ _ h.ne]
    exact hp

theorem Box.turn_p (h : Box T b cu cp ku kp U Pl i o w) (U' : List Value) (s r j : Nat) (v : Int) (i' o' : Nat) (hv : #[Value.chan (some cu), .chan (some cp), .int .i64 (i : Int), .int .i64 (o : Int)].setIfInBounds j (.int .i64 v) = #[.chan (some cu), .chan (some cp), .int .i64 (i' : Int), .int .i64 (o' : Int)]) :
    Box T b cu cp ku kp U U' i' o' ((w.setChan cp kp ⟨U'⟩ false s r false).setCell ⟨b, j, none⟩ (.int .i64 v)) := by
  have h1 := h.blk_chan (.inr rfl) kp ⟨U'⟩ s r
  obtain ⟨s0, r0, hu⟩ := h.hu
  obtain ⟨s1, r1, hp⟩ := h.hp
  refine ⟨?_, ⟨s0, r0, ?_⟩, ⟨s, r, ?_⟩, h.ne⟩
  · rw [heap_setCell_same h1, hv]
  · rw [Below.heap_setCell _ _ _ _ (by exact h.nbu.symm), heap_setChan_other _ _ _ _ _ _ _ _ _ h.ne.symm]
    exact hu
  · rw [Below.heap_setCell _ _ _ _ (by exact h.nbp.symm)]
    exact heap_setChan _ _ _ _ _ _ _ _ (lt_of_at hp)

theorem Fr.turn {b cu cp c j : Nat} (hc : c = cu ∨ c = cp) (w : World) (cap : Nat) (buf : Array Value) (s r : Nat) (v : Value) :
    Fr (boxS b cu cp) w ((w.setChan c cap buf false s r false).setCell ⟨b, j, none⟩ v) :=
  ((Fr.refl _ w).setChan (by rcases hc with rfl | rfl; exact .inr (.inl rfl); exact .inr (.inr rfl)) _ _ _ _ _ _).setCell (.inl rfl) _
end

/-- How many elements a slice has. -/
def lenOf : Value → Nat | .slice _ n _ => n | _ => 0
theorem ownsRow_lenOf {w : World} {base : Nat} {e : TypeId} {size : Nat} {v : Value} {n : Nat} {xs : List Value} (h : w.ownsRow base e size v n xs) : lenOf v = n := by
  rcases h.2 with ⟨rfl, rfl⟩ | ⟨g, cap, cur, rfl, _⟩ <;> rfl
theorem ownsRow_own {w : World} {base : Nat} {e : TypeId} {size : Nat} {v : Value} {n : Nat} {xs : List Value} (h : w.ownsRow base e size v n xs) {B : Nat} (hB : B ≤ base) : ∀ k, v.ownBlock = some k → B ≤ k :=
  fun k hk => Nat.le_trans hB (h.lt k hk).1

theorem three_at (w : World) (a b c : Obj) : (((w.alloc a).alloc b).alloc c).drew.heap[w.heap.size]? = some a ∧ (((w.alloc a).alloc b).alloc c).drew.heap[w.heap.size + 1]? = some b ∧ (((w.alloc a).alloc b).alloc c).drew.heap[w.heap.size + 1 + 1]? = some c := by
  refine ⟨?_, ?_, ?_⟩
  · show (((w.alloc a).alloc b).alloc c).heap[w.heap.size]? = _
    rw [Below.heap_alloc _ _ _ (by simp; omega), Below.heap_alloc _ _ _ (by simp)]
    exact heap_alloc_new w a
  · show (((w.alloc a).alloc b).alloc c).heap[w.heap.size + 1]? = _
    rw [Below.heap_alloc _ _ _ (by simp)]
    simpa using heap_alloc_new (w.alloc a) b
  · show (((w.alloc a).alloc b).alloc c).heap[w.heap.size + 1 + 1]? = _
    simpa using heap_alloc_new ((w.alloc a).alloc b) c
theorem three_below (w : World) (a b c : Obj) : Below w.heap.size w (((w.alloc a).alloc b).alloc c).drew :=
  ((((Below.refl _ w).alloc (Nat.le_refl _) a).alloc (by simp) b).alloc (by simp; omega) c).drew

/-- A fresh mailbox, the urgent channel made first. -/
theorem box_new (T : TypeId) (w : World) (ku kp : Nat) : Box T (w.heap.size + 1 + 1) w.heap.size (w.heap.size + 1) ku kp [] [] 0 0
    (((w.alloc (.chan ku #[] false 0 0 false)).alloc (.chan kp #[] false 0 0 false)).alloc (.cells #[.chan (some w.heap.size), .chan (some (w.heap.size + 1)), .int .i64 0, .int .i64 0] T)).drew := by
  obtain ⟨h1, h2, h3⟩ := three_at w (.chan ku #[] false 0 0 false) (.chan kp #[] false 0 0 false) (.cells #[.chan (some w.heap.size), .chan (some (w.heap.size + 1)), .int .i64 0, .int .i64 0] T)
  exact ⟨h3, ⟨0, 0, h1⟩, ⟨0, 0, h2⟩, by omega⟩
/-- .. the plain one first. -/
theorem box_new' (T : TypeId) (w : World) (ku kp : Nat) : Box T (w.heap.size + 1 + 1) (w.heap.size + 1) w.heap.size ku kp [] [] 0 0
    (((w.alloc (.chan kp #[] false 0 0 false)).alloc (.chan ku #[] false 0 0 false)).alloc (.cells #[.chan (some (w.heap.size + 1)), .chan (some w.heap.size), .int .i64 0, .int .i64 0] T)).drew := by
  obtain ⟨h1, h2, h3⟩ := three_at w (.chan kp #[] false 0 0 false) (.chan ku #[] false 0 0 false) (.cells #[.chan (some (w.heap.size + 1)), .chan (some w.heap.size), .int .i64 0, .int .i64 0] T)
  exact ⟨h3, ⟨0, 0, h2⟩, ⟨0, 0, h1⟩, by omega⟩
end Go.Proofs.Ytdcjpgpeedboaaa
