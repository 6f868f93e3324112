/- A map of pointers in memory that reads as a list of keys and blocks. Conditions: the keys are of a kind of which maps can be kept. -/
import Derived.Test.YtkbcfagggjfhhaaRing
import Derived.Maps.OwnSet
namespace Go.Proofs.Ytkbcfagggjfhhaa
set_option maxRecDepth 100000
open Go.RowKit
open Go.Maps (Keyed Tidy IsMap)

/-- How a pointer to a whole block reads. -/
def ptrElem : Value → Option (DataW Unit × List MemPlace)
  | .pointer none => some (.nil, [])
  | .pointer (some ⟨b, 0, none⟩) => some (.lit (.int .i64 b), [])
  | _ => none
theorem ptrElem_mk (b : Nat) : ptrElem (Ptr b) = some (.lit (.int .i64 b), []) := rfl
theorem ptrElem_nil {v : Value} {ps : List MemPlace} (h : ptrElem v = some (.nil, ps)) : v = .pointer none := by
  unfold ptrElem at h
  split at h
  · rfl
  · cases h
  · cases h
theorem ptrElem_some {v : Value} {b : Nat} {ps : List MemPlace} (h : ptrElem v = some (.lit (.int .i64 b), ps)) : v = Ptr b := by
  unfold ptrElem at h
  split at h
  · cases h
  · simp only [Option.some.injEq, Prod.mk.injEq, DataW.lit.injEq, Lit.int.injEq, true_and] at h
    have := h.1
    rw [show _ = b from Int.ofNat_inj.1 h.1]; rfl
  · cases h

/-- D tells the keys and blocks of L. -/
def Tells (P : Program) (k : TypeId) (D : DataW Unit) (L : List (Value × Nat)) : Prop :=
  (∀ x ∈ L, ∃ l, keyOf P k x.1 = some l ∧ Maps.has D l = true ∧ ∀ z, D.atKey l z = .lit (.int .i64 x.2)) ∧ (∀ v l, keyOf P k v = some l → v ∉ L.map Prod.fst → Maps.has D l = false) ∧ Maps.size D = L.length ∧ (L.map Prod.fst).Nodup

section
variable {P : Program} {k : TypeId} {D : DataW Unit} {L L' : List (Value × Nat)} {v : Value} {l : Lit} {b : Nat}
theorem Tells.perm (h : Tells P k D L) (hp : L.Perm L') : Tells P k D L' :=
  ⟨fun x hx => h.1 x (hp.mem_iff.2 hx), fun v l hv hn => h.2.1 v l hv (fun hm => hn ((hp.map Prod.fst).mem_iff.1 hm)), h.2.2.1.trans hp.length_eq, (hp.map Prod.fst).nodup_iff.1 h.2.2.2⟩
theorem tells_empty (P : Program) (k : TypeId) : Tells P k (.map []) [] := ⟨by simp, fun _ _ _ _ => rfl, rfl, by simp⟩
theorem Tells.put_new (K : Keyed P k) (h : Tells P k D L) (hD : Tidy D) (hk : keyOf P k v = some l) (hn : v ∉ L.map Prod.fst) (b : Nat) : Tells P k (D.put l (.lit (.int .i64 b))) ((v, b) :: L) := by
  have hne : ∀ x ∈ L, ∀ l', keyOf P k x.1 = some l' → l' ≠ l := fun x hx l' hl' e => hn (by
    rw [K.inj hk (e ▸ hl')]; exact List.mem_map.2 ⟨x, hx, rfl⟩)
  refine ⟨?_, ?_, ?_, ?_⟩
  · intro x hx
    rcases List.mem_cons.1 hx with rfl | hx
    · exact ⟨l, hk, Maps.has_put_same hD.isMap (K.key hk) _, fun z => Maps.atKey_put_same hD.isMap (K.key hk) _ z⟩
    · obtain ⟨l', h1, h2, h3⟩ := h.1 x hx
      have := hne x hx l' h1
      exact ⟨l', h1, by rw [Maps.has_put_other this]; exact h2, fun z => by rw [Maps.atKey_put_other this]; exact h3 z⟩
  · intro v' l' hv' hn'
    simp only [List.map_cons, List.mem_cons, not_or] at hn'
    have : l' ≠ l := fun e => hn'.1 (K.inj hv' (e ▸ hk))
    rw [Maps.has_put_other this]
    exact h.2.1 v' l' hv' hn'.2
  · rw [Maps.size_put hD, h.2.1 v l hk hn, h.2.2.1]
    rfl
  · rw [List.map_cons, List.nodup_cons]
    exact ⟨hn, h.2.2.2⟩
theorem Tells.del (K : Keyed P k) (h : Tells P k D ((v, b) :: L)) (hD : Tidy D) (hk : keyOf P k v = some l) : Tells P k (D.del l) L := by
  have nd := h.2.2.2
  rw [List.map_cons, List.nodup_cons] at nd
  have hne : ∀ x ∈ L, ∀ l', keyOf P k x.1 = some l' → l' ≠ l := fun x hx l' hl' e => nd.1 (by
    show v ∈ _
    rw [K.inj hk (e ▸ hl')]; exact List.mem_map.2 ⟨x, hx, rfl⟩)
  refine ⟨?_, ?_, ?_, nd.2⟩
  · intro x hx
    obtain ⟨l', h1, h2, h3⟩ := h.1 x (List.mem_cons_of_mem _ hx)
    have := hne x hx l' h1
    exact ⟨l', h1, by rw [Maps.has_del_other this]; exact h2, fun z => by rw [Maps.atKey_del_other this]; exact h3 z⟩
  · intro v' l' hv' hn'
    by_cases e : l' = l
    · rw [e]; exact Maps.has_del_same
    · rw [Maps.has_del_other e]
      refine h.2.1 v' l' hv' ?_
      rw [List.map_cons, List.mem_cons, not_or]
      refine ⟨fun ev => e ?_, hn'⟩
      subst ev
      rw [hk] at hv'
      exact (Option.some.inj hv').symm
  · have h1 := Maps.size_del (k := l) hD
    obtain ⟨l', h2, h3, -⟩ := h.1 (v, b) (by simp)
    rw [hk] at h2
    obtain rfl := Option.some.inj h2
    rw [h3, h.2.2.1, if_pos rfl, List.length_cons] at h1
    omega
end

/-- The map in block mb has the keys and blocks of L. -/
def PMap (P : Program) (k : TypeId) (mb : Nat) (L : List (Value × Nat)) (w : World) : Prop := ∃ D, w.ownsMap P k ptrElem mb L.length D ∧ Tells P k D L

section
variable {P : Program} {k e t ty : TypeId} {L L' : List (Value × Nat)} {v : Value} {l : Lit} {b mb : Nat} {w w' : World}
theorem PMap.perm (h : PMap P k mb L w) (hp : L.Perm L') : PMap P k mb L' w := by
  obtain ⟨D, h1, h2⟩ := h
  exact ⟨D, hp.length_eq ▸ h1, h2.perm hp⟩
theorem PMap.keep {F : Nat → Prop} (h : PMap P k mb L w) (hf : Fr F w w') (hs : ¬ F mb) : PMap P k mb L w' := by
  obtain ⟨D, ⟨es, clock, hb, r⟩, h2⟩ := h
  exact ⟨D, ⟨es, clock, hf.at hb hs, r⟩, h2⟩
theorem PMap.is (h : PMap P k mb L w) : ∃ es clock, w.heap[mb]? = some (.map es clock) := by
  obtain ⟨D, ⟨es, clock, hb, r⟩, h2⟩ := h
  exact ⟨es, clock, hb⟩
theorem PMap.made (w : World) (P : Program) (k : TypeId) : PMap P k w.heap.size [] (w.alloc (.map #[] 0)) := ⟨.map [], World.ownsMap_made w P k ptrElem, tells_empty P k⟩
theorem PMap.keys (h : PMap P k mb L w) : (L.map Prod.fst).Nodup := by obtain ⟨D, _, h2⟩ := h; exact h2.2.2.2
theorem PMap.look_there (h : PMap P k mb L w) (K : Keyed P k) (ht : P.underlying t = some (.map k e)) (hz : (zeroValue e).run P w = .ok (.pointer none) w) (hm : (v, b) ∈ L) :
    (Instr.lookup t (.map (some mb)) v false).run P w = .ok (Ptr b) w := by
  obtain ⟨D, h1, h2⟩ := h
  obtain ⟨l, k1, k2, k3⟩ := h2.1 _ hm
  obtain ⟨u, ps, hr, hu⟩ := h1.lookup K ht hz (zd := .nil) (zp := []) rfl k1
  rw [k3] at hu
  rw [hr, ptrElem_some hu]
theorem PMap.look_none (h : PMap P k mb L w) (K : Keyed P k) (ht : P.underlying t = some (.map k e)) (hz : (zeroValue e).run P w = .ok (.pointer none) w) (hk : keyOf P k v = some l) (hn : v ∉ L.map Prod.fst) :
    (Instr.lookup t (.map (some mb)) v false).run P w = .ok (.pointer none) w := by
  obtain ⟨D, h1, h2⟩ := h
  obtain ⟨u, ps, hr, hu⟩ := h1.lookup K ht hz (zd := .nil) (zp := []) rfl hk
  rw [Maps.atKey_of_not_has (h2.2.1 v l hk hn)] at hu
  rw [hr, ptrElem_nil hu]
theorem PMap.len (h : PMap P k mb L w) (ht : P.underlying t = some (.map k e)) (ty : TypeId) : (Builtin.len_ #[t] ty #[.map (some mb)]).run P w = .ok (.int .i64 L.length) w := by
  obtain ⟨D, h1, h2⟩ := h
  rw [h1.len ht ty, h2.2.2.1]
theorem Fr.turned (h : w.mapTurned w' mb) : Fr (fun k => k = mb) w w' := by
  have g := h.grown
  exact ⟨g.os, g.tape, g.output, g.size, fun k hk hn => g.block k hk (by simpa using hn)⟩
theorem PMap.store (h : PMap P k mb L w) (K : Keyed P k) (ht : P.underlying t = some (.map k e)) (hl : L.length < maxLen) (hk : keyOf P k v = some l) (hn : v ∉ L.map Prod.fst) (b : Nat) :
    ∃ w', (Instr.mapUpdate t (.map (some mb)) v (Ptr b)).run P w = .ok () w' ∧ PMap P k mb ((v, b) :: L) w' ∧ Fr (fun k => k = mb) w w' := by
  obtain ⟨D, h1, h2⟩ := h
  obtain ⟨w', hr, h3, h4⟩ := h1.store K ht hl hk (ptrElem_mk b)
  exact ⟨w', hr, ⟨_, h3, h2.put_new K (h1.tidy K) hk hn b⟩, Fr.turned h4⟩
theorem PMap.drop (h : PMap P k mb ((v, b) :: L) w) (K : Keyed P k) (ht : P.underlying t = some (.map k e)) (hk : keyOf P k v = some l) (ty : TypeId) :
    ∃ w', (Builtin.delete_ #[t, k] ty #[.map (some mb), v]).run P w = .ok (.tuple #[]) w' ∧ PMap P k mb L w' ∧ Fr (fun k => k = mb) w w' := by
  obtain ⟨D, h1, h2⟩ := h
  obtain ⟨w', hr, h3, h4⟩ := h1.drop K ht hk ty
  have h5 := h2.del K (h1.tidy K) hk
  refine ⟨w', hr, ⟨_, ?_, h5⟩, Fr.turned h4⟩
  obtain ⟨es, clock, g1, g2, g3, g4⟩ := h3
  refine ⟨es, clock, g1, g2, ?_, g4⟩
  have := h5.2.2.1
  rw [g4] at this
  have e1 : Maps.size (DataW.map ((es.toList.map (WideElems.rg P k ptrElem)).foldr DataW.insert [])) = es.size := by simp [Maps.size, length_sorted]
  rw [e1] at this
  omega
end

/-! ### at the operation -/
theorem wpList_store_p {P : Program} (w : World) {ops : Array Oper} {rest : List Oper} {o : Oper} {a : Act} {Q : Exit → Act → World → Prop} (hg : o.guard = none) (m x v : Operand) (t : TypeId) (hop : o.op = Op.mapUpdate t m x v)
    (k e : TypeId) (K : Keyed P k) (ht : P.underlying t = some (.map k e)) (mb : Nat) (L : List (Value × Nat)) (hm : a.eval m = .map (some mb)) (h : PMap P k mb L w) (hl : L.length < maxLen) (key : Value) (l : Lit) (b : Nat) (hx : a.eval x = key) (hv : a.eval v = Ptr b)
    (hk : keyOf P k key = some l) (hn : key ∉ L.map Prod.fst) (hK : ∀ w', PMap P k mb ((key, b) :: L) w' → Fr (fun k => k = mb) w w' → wpList P ops Q rest (a.put o.dst undef) w') : wpList P ops Q (o :: rest) a w := by
  refine wpList_plain hg fun K' hK' => ?_
  obtain ⟨w', hrun, r1, r2⟩ := h.store K ht hl hk hn b
  unfold Oper.wp
  simp [execOp, hop, hm, hx, hv, hrun, Result.andThen]
  exact hK' _ _ (hK w' r1 r2)
theorem wpList_drop_p {P : Program} (w : World) {ops : Array Oper} {rest : List Oper} {o : Oper} {a : Act} {Q : Exit → Act → World → Prop} (hg : o.guard = none) (m x : Operand) (t k : TypeId) (hop : o.op = Op.call { callee := Callee.builtin Builtin.delete, args := #[m, x], argTypes := #[t, k] })
    (e : TypeId) (K : Keyed P k) (ht : P.underlying t = some (.map k e)) (mb : Nat) (L : List (Value × Nat)) (hm : a.eval m = .map (some mb)) (key : Value) (l : Lit) (b : Nat) (h : PMap P k mb ((key, b) :: L) w) (hx : a.eval x = key)
    (hk : keyOf P k key = some l) (hK : ∀ w', PMap P k mb L w' → Fr (fun k => k = mb) w w' → wpList P ops Q rest (a.put o.dst (.tuple #[])) w') : wpList P ops Q (o :: rest) a w := by
  refine wpList_plain hg fun K' hK' => ?_
  obtain ⟨w', hrun, r1, r2⟩ := h.drop K ht hk o.type
  unfold Oper.wp
  simp [execOp, hop, resolve, invoke, builtin, hm, hx, hrun, Result.andThen]
  exact hK' _ _ (hK w' r1 r2)
theorem step_drop_p {P : Program} (w : World) {ops : Array Oper} {o : Oper} {a : Act} {K : Act → World → Prop} {Q : Exit → Act → World → Prop} {E : Prop} (hg : o.guard = none) (m x : Operand) (t k : TypeId) (hop : o.op = Op.call { callee := Callee.builtin Builtin.delete, args := #[m, x], argTypes := #[t, k] })
    (e : TypeId) (KY : Keyed P k) (ht : P.underlying t = some (.map k e)) (mb : Nat) (L : List (Value × Nat)) (hm : a.eval m = .map (some mb)) (key : Value) (l : Lit) (b : Nat) (h : PMap P k mb ((key, b) :: L) w) (hx : a.eval x = key)
    (hk : keyOf P k key = some l) (hK : ∀ w', PMap P k mb L w' → Fr (fun k => k = mb) w w' → K (a.put o.dst (.tuple #[])) w') : if Region.wanted o (yielded ops a.tmps) = true then Oper.wp P o a w K Q else E := by
  have hw : Region.wanted o (yielded ops a.tmps) = true := by simp [Region.wanted, hg]
  rw [if_pos hw]
  obtain ⟨w', hrun, r1, r2⟩ := h.drop KY ht hk o.type
  unfold Oper.wp
  simp [execOp, hop, resolve, invoke, builtin, hm, hx, hrun, Result.andThen]
  exact hK w' r1 r2
end Go.Proofs.Ytkbcfagggjfhhaa
