/- Rules by which a walk passes a select of one case with a default, in one goroutine. Conditions: none. -/
import Derived.WalkKit
import Derived.Conc.LoneSelect
import Derived.Test.YtdcjpgpeedboaaaMem
namespace Go.Proofs.Ytdcjpgpeedboaaa
open Go.Conc Go.RowKit

/-- As 'Code.wp', of frames that are not of the start-up. -/
def WpN (P : Program) (c : Code) (Q : Exit → Act → World → Prop) (a : Act) (w : World) : Prop :=
  ∀ (b : Frame), b.kind ≠ .early → ∀ (k : List Item) (cs : List Frame),
    ∃ e a' w', Q e a' w' ∧ Arrives P (lone (b.at a (.code c :: k)) cs w) b k cs e a' w'

section
variable {P : Program} {Q : Exit → Act → World → Prop} {a : Act} {w : World}

theorem WpN.of_wp {c : Code} (h : c.wp P Q a w) : WpN P c Q a w := fun b _ k cs => h b k cs

theorem wpN_seq {x y : Code} (h : WpN P x (Exit.then (WpN P y Q) Q) a w) : WpN P (.seq x y) Q a w := by
  intro b hb k cs
  obtain ⟨e, a₁, w₁, hq, harr⟩ := h b hb (.code y :: k) cs
  cases e with
  | normal =>
    obtain ⟨e₂, a₂, w₂, hq₂, harr₂⟩ := hq b hb k cs
    exact ⟨e₂, a₂, w₂, hq₂, .of_steps (.head step_seq harr) harr₂⟩
  | exit id => exact ⟨_, a₁, w₁, hq, .of_steps (.one step_seq) (.pass (x := .code y) rfl (fun _ _ => .inl (by simp)) harr)⟩
  | goto l => exact ⟨_, a₁, w₁, hq, .of_steps (.one step_seq) (.pass (x := .code y) rfl (fun _ _ => .inl (by simp)) harr)⟩
  | ret => exact ⟨_, a₁, w₁, hq, .of_steps (.one step_seq) (.pass (x := .code y) rfl (fun _ _ => .inl (by simp)) harr)⟩
  | panic ch => exact ⟨_, a₁, w₁, hq, .of_steps (.one step_seq) (.pass (x := .code y) rfl (fun _ _ => .inl (by simp)) harr)⟩
  | outgrown => exact ⟨_, a₁, w₁, hq, .of_steps (.one step_seq) (.pass (x := .code y) rfl (fun _ _ => .inl (by simp)) harr)⟩

/-- The first piece by the plain walk. -/
theorem wpN_seq_k {x y : Code} (h : ∀ K : Act → World → Prop, (∀ a w, WpN P y Q a w → K a w) → x.wp P (Exit.then K Q) a w) : WpN P (.seq x y) Q a w :=
  wpN_seq (.of_wp (h _ fun _ _ h => h))

theorem wpN_mono {c : Code} {Q' : Exit → Act → World → Prop} (h : WpN P c Q a w) (hq : ∀ e a w, Q e a w → Q' e a w) : WpN P c Q' a w :=
  fun b hb k cs => let ⟨e, a', w', q, r⟩ := h b hb k cs; ⟨e, a', w', hq _ _ _ q, r⟩

/-- A region whose first operation is one step of the machine's own. -/
theorem wpN_region_comm {id : Nat} {o : Oper} {l : List Oper} {v : Value} {w' : World}
    (hstep : ∀ (b : Frame) (k : List Item) (cs : List Frame) (rest : List Nat), b.kind ≠ .early →
      step P (lone (b.at a (.inRegion (o :: l).toArray (0 :: rest) :: k)) cs w) = .next (lone ((b.at a (.inRegion (o :: l).toArray (0 :: rest) :: k)).finish v) cs w'))
    (h : wpList P (o :: l).toArray Q l (a.put o.dst v) w') : WpN P (.region id (o :: l).toArray false) Q a w := by
  intro b hb k cs
  have hr : List.range (o :: l).toArray.size = 0 :: List.range' 1 l.length := by
    simp [List.range_eq_range', List.range'_succ]
  have h' : wpOps P (o :: l).toArray Q (List.range' 1 l.length) (a.put o.dst v) w' := by
    rw [wpOps_eq_wpList l 1 (fun j => by rw [Nat.add_comm]; simp)]
    exact h
  obtain ⟨e, a', w'', hq, harr⟩ := wp_ops _ _ _ h' b k cs
  refine ⟨e, a', w'', hq, .of_steps (.head step_region ?_) harr⟩
  rw [hr]
  refine .one ?_
  rw [hstep b k cs _ hb, Frame.finish_at]
  rfl

section
variable {id : Nat} {o : Oper} {l : List Oper} {c cap s r : Nat} {buf : List Value} {z z' v : Value} {w₁ : World}

theorem wpN_send_room (hg : o.guard = none) (hr : (execOp a.eval o).run P w = .ok (.comm #[scase c v z] false .select) w)
    (hc : w.heap[c]? = some (.chan cap ⟨buf⟩ false s r false)) (hroom : buf.length < cap)
    (h : wpList P (o :: l).toArray Q l (a.put o.dst (.tuple #[goInt 0, .bool false])) (w.setChan c cap ⟨buf ++ [v]⟩ false (s + 1) r false)) : WpN P (.region id (o :: l).toArray false) Q a w :=
  wpN_region_comm (v := .tuple #[goInt 0, .bool false]) (w' := w.setChan c cap ⟨buf ++ [v]⟩ false (s + 1) r false) (fun b k cs rest hb => by
    have := step_lone_select_send_room (stepG_comm (P := P) (main := true) (b := b) (a := a) (k := k) (cs := cs) (i := 0) (rest := rest) (ops := (o :: l).toArray) rfl (by simp [Region.wanted, hg]) hb hr) hc (by simpa using hroom)
    simpa [lone_eq_solo] using this) h

theorem wpN_send_full (hg : o.guard = none) (hr : (execOp a.eval o).run P w = .ok (.comm #[scase c v z] false .select) w)
    (hc : w.heap[c]? = some (.chan cap ⟨buf⟩ false s r false)) (hfull : cap ≤ buf.length)
    (h : wpList P (o :: l).toArray Q l (a.put o.dst (.tuple #[goInt (-1), .bool false])) w) : WpN P (.region id (o :: l).toArray false) Q a w :=
  wpN_region_comm (v := .tuple #[goInt (-1), .bool false]) (w' := w) (fun b k cs rest hb => by
    have := step_lone_select_send_full (stepG_comm (P := P) (main := true) (b := b) (a := a) (k := k) (cs := cs) (i := 0) (rest := rest) (ops := (o :: l).toArray) rfl (by simp [Region.wanted, hg]) hb hr) hc (by simpa using hfull)
    simpa [lone_eq_solo] using this) h

theorem wpN_recv_some {x : Value} (hg : o.guard = none) (hr : (execOp a.eval o).run P w = .ok (.comm #[rcase c z] false .select) w)
    (hc : w.heap[c]? = some (.chan cap ⟨x :: buf⟩ false s r false))
    (h : wpList P (o :: l).toArray Q l (a.put o.dst (.tuple #[goInt 0, .bool true, x])) (w.setChan c cap ⟨buf⟩ false s (r + 1) false)) : WpN P (.region id (o :: l).toArray false) Q a w :=
  wpN_region_comm (v := .tuple #[goInt 0, .bool true, x]) (w' := w.setChan c cap ⟨buf⟩ false s (r + 1) false) (fun b k cs rest hb => by
    have := step_lone_select_recv_buf (stepG_comm (P := P) (main := true) (b := b) (a := a) (k := k) (cs := cs) (i := 0) (rest := rest) (ops := (o :: l).toArray) rfl (by simp [Region.wanted, hg]) hb hr) hc (by simp)
    have e : (⟨x :: buf⟩ : Array Value).extract 1 (⟨x :: buf⟩ : Array Value).size = ⟨buf⟩ := by simp
    rw [e] at this
    simpa [lone_eq_solo] using this) h

theorem wpN_recv_none (hg : o.guard = none) (hr : (execOp a.eval o).run P w = .ok (.comm #[rcase c z] false .select) w)
    (hc : w.heap[c]? = some (.chan cap ⟨[]⟩ false s r false))
    (h : wpList P (o :: l).toArray Q l (a.put o.dst (.tuple #[goInt (-1), .bool false, z])) w) : WpN P (.region id (o :: l).toArray false) Q a w :=
  wpN_region_comm (v := .tuple #[goInt (-1), .bool false, z]) (w' := w) (fun b k cs rest hb => by
    have := step_lone_select_default (stepG_comm (P := P) (main := true) (b := b) (a := a) (k := k) (cs := cs) (i := 0) (rest := rest) (ops := (o :: l).toArray) rfl (by simp [Region.wanted, hg]) hb hr) hc
    simpa [lone_eq_solo] using this) h
end
end

theorem calls_of_wpN {P : Program} {f : FuncId} {fn : Func} {c : Code} {args : Array Value} {w : World} {R : Ending → World → Prop}
    (hf : P.funcs[f]? = some fn) (hb : fn.body = some c)
    (h : WpN P c (bodyPost P fn R) { tmps := args ++ Array.replicate (fn.ntmps - args.size) undef, defers := [] } w) :
    Calls P f args w R := by
  intro cs
  let b : Frame := { (default : Frame) with fn := f, kind := .normal }
  have henter : Frame.enter P f args .normal =
      b.at { tmps := args ++ Array.replicate (fn.ntmps - args.size) undef, defers := [] } [.code c] := by
    simp [Frame.enter, Frame.at, hf, hb, b]
  obtain ⟨e, a', w', hq, harr⟩ := h b (by simp [b]) [] cs
  rw [← henter] at harr
  cases e with
  | normal =>
    obtain ⟨hd, v, hr, hR⟩ := hq
    exact ⟨.returned v, w', _, hR, Steps.trans harr (.one step_end), rfl, rfl, hd, rfl, fn, hf, hr⟩
  | ret =>
    obtain ⟨hd, v, hr, hR⟩ := hq
    obtain ⟨todo, hs⟩ := harr
    exact ⟨.returned v, w', _, hR, hs, rfl, rfl, hd, rfl, fn, hf, hr⟩
  | panic chain =>
    obtain ⟨hd, hR⟩ := hq
    obtain ⟨todo, hs⟩ := harr
    exact ⟨.panicked chain, w', _, hR, hs, rfl, rfl, hd, fn, hf⟩
  | exit id => exact hq.elim
  | goto l => exact hq.elim
  | outgrown => exact ⟨.outgrown, w', b, hq, harr.resolve_left (by simp [b]), rfl, trivial⟩

theorem Fr.setChan {S : Nat → Prop} {w w' : World} (h : Fr S w w') {c : Nat} (hp : S c) (cap : Nat) (buf : Array Value) (cl : Bool) (s r : Nat) (tm : Bool) : Fr S w (w'.setChan c cap buf cl s r tm) :=
  h.trans ⟨rfl, rfl, rfl, by simp [World.setChan], fun k _ hn => by
    simp only [World.setChan]; rw [Array.getElem?_setIfInBounds_ne (fun e : c = k => hn (e ▸ hp))]⟩
end Go.Proofs.Ytdcjpgpeedboaaa
