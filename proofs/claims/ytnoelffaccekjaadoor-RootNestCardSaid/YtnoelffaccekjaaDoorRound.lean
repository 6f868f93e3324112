/- A region that draws its order and only reads, in a round of a range over a function: walked once, in the text's order. Conditions: no operation of it is a defer statement. -/
import Derived.RangeFuncCalls
import Derived.Sort.QuietTacIn
import Derived.OrdersIn
namespace Go.Proofs.YtnoelffaccekjaaDoor
open Go.RowKit

theorem uponIn_round (F : Fence) (l n : Nat) (P : Program) (o : Oper) (a : Act) (next : Act → World → Prop) (Q : Exit → Act → World → Prop) (r : Result Next) :
    o.uponIn (F.inRound l) n P a next Q r = o.uponIn F n P a next Q r := by
  unfold Oper.uponIn
  rfl

theorem operIn_round {F : Fence} (l n : Nat) (P : Program) (o : Oper) (hd : ∀ c, o.op ≠ .defer c) (a : Act) (w : World) (next : Act → World → Prop) (Q : Exit → Act → World → Prop) :
    o.wpIn (F.inRound l) n P a w next Q = o.wpIn F n P a w next Q := by
  unfold Oper.wpIn
  rw [uponIn_round, Oper.semAt_eq _ _ _ hd, Oper.semAt_eq _ _ _ hd]
  rfl

theorem opsIn_round {F : Fence} (l n : Nat) (P : Program) (ops : Array Oper) (hd : ∀ (i : Nat) (o : Oper), ops[i]? = some o → ∀ c, o.op ≠ .defer c) (Q : Exit → Act → World → Prop) :
    ∀ (r : List Nat), wpOpsIn (F.inRound l) n P ops Q r = wpOpsIn F n P ops Q r
  | [] => rfl
  | i :: r => by
    funext a w
    have ih := opsIn_round (F := F) l n P ops hd Q r
    simp only [wpOpsIn]
    cases ho : ops[i]? with
    | none => simp only [ih]
    | some o => simp only [ih, operIn_round l n P o (hd i o ho)]; rfl

def noDefer : Op → Bool
  | .defer _ => false
  | _ => true

theorem noDefer_of {ops : Array Oper} (h : ops.all (fun o => noDefer o.op) = true) : ∀ (i : Nat) (o : Oper), ops[i]? = some o → ∀ c, o.op ≠ .defer c := fun i o hi c hc => by
  have h1 := (Array.all_eq_true_iff_forall_mem.1 h) o (Array.mem_of_getElem? hi)
  rw [hc] at h1
  exact Bool.noConfusion h1

theorem wpIn_region_quiet_round {F : Fence} {n : Nat} {P : Program} {id : Nat} {Q : Exit → Act → World → Prop} {a : Act} {w : World} {r : List Oper} {l : Nat} (hro : F.round = none) (hm : P.follows .mixedOrders = true) (hB : Region.lexB .any r.toArray = true) (hd : r.toArray.all (fun o => noDefer o.op) = true)
    (h : wpQuietIn F n P r.toArray (fun w' => ∃ n, w' = w.drewN n) (fun a' => ∀ w', (∃ n, w' = w.drewN n) → Q .normal a' w') r a) : (Code.region id r.toArray true).wpIn (F.inRound l) n P Q a w := by
  refine wpIn_region_draw fun t => ?_
  rw [opsIn_round l n P _ (noDefer_of hd)]
  simp only [Bool.and_eq_true, Region.lexB] at hB
  simp only [Region.schedule, hm, Bool.true_or, if_true]
  refine wpAnyIn_sound _ t _ a _ (wpAnyIn_of_quiet (C := fun w' => ∃ n, w' = w.drewN n) (Q := fun a' => ∀ w', (∃ n, w' = w.drewN n) → Q .normal a' w') hro (fun _ w' hw' h => h w' hw') _ _ _ _ ⟨1, rfl⟩ ?_)
  have := wpAnyQIn_lex (F := F) (n := n) (C := fun w' => ∃ n, w' = w.drewN n) (md := .any) hB.1 r 0 (Array.replicate r.toArray.size false) a (by simp) (by simpa using hB.2) h
  simpa using this

theorem asked_wide (P : Program) (o : Oper) (a : Act) (C : World → Prop) : o.askedIn Fence.wide P a C := fun _ _ _ _ => trivial
end Go.Proofs.YtnoelffaccekjaaDoor
