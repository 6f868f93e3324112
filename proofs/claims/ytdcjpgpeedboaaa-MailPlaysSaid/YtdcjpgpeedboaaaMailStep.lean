/- What a call does to the document's box, as one function; that Do tells just that. Conditions: the two slices read as lists; the lists are short. -/
import Derived.Test.YtdcjpgpeedboaaaMailDo3
namespace Go.Proofs.Ytdcjpgpeedboaaa.MDo
open Go.RowKit Go.Proofs.Ytdcjpgpeedboaaa

/-- What is there behind a call, what it tells. -/
structure Res where
  U : List Int
  P : List Int
  x : Int
  u : Bool
  f : Int

def stepD (ku kp : Nat) (kind n : Int) (U P : List Int) : Res :=
  if kind = 0 then (if kp ≤ P.length then ⟨U, P, 0, false, 6⟩ else ⟨U, P ++ [n], 0, false, 0⟩)
  else if kind = 1 then (if ku ≤ U.length then ⟨U, P, 0, false, 6⟩ else ⟨U ++ [n], P, 0, false, 0⟩)
  else match U, P with
    | x :: U, P => ⟨U, P, x, true, 0⟩
    | [], x :: P => ⟨[], P, x, false, 0⟩
    | [], [] => ⟨[], [], 0, false, 5⟩

theorem stepD_len (ku kp : Nat) (kind n : Int) (U P : List Int) : (stepD ku kp kind n U P).U.length ≤ U.length + 1 ∧ (stepD ku kp kind n U P).P.length ≤ P.length + 1 := by
  unfold stepD
  split
  · split <;> simp
  · split
    · split <;> simp
    · split <;> simp <;> omega

theorem do_any {N : Nat → Prop} {vU vP : Value} {ku kp : Nat} {kind n : Int} {U Pl : List Int} {w : World} (hU : Rd N w vU (U.map I)) (hP : Rd N w vP (Pl.map I)) (hl : Pl.length ≤ 10000) (hl' : U.length ≤ 10000) (hN : ∀ g, w.heap.size ≤ g → N g) :
    Calls Try.prog 17 #[.agg #[vU, vP, .int .i64 (ku : Int), .int .i64 (kp : Int)], .agg #[.int .i64 kind, .int .i64 n]] w
      (DoOk N ku kp (stepD ku kp kind n U Pl).U (stepD ku kp kind n U Pl).P (stepD ku kp kind n U Pl).x (stepD ku kp kind n U Pl).u (stepD ku kp kind n U Pl).f w) := by
  unfold stepD
  by_cases h0 : kind = 0
  · subst h0
    rw [if_pos rfl]
    by_cases hf : kp ≤ Pl.length
    · rw [if_pos hf]; exact do_plain_full hU hP (by show (kp : Int) ≤ (Pl.length : Int); omega)
    · rw [if_neg hf]; exact do_plain_room hU hP (by omega) hl hN
  · rw [if_neg h0]
    by_cases h1 : kind = 1
    · subst h1
      rw [if_pos rfl]
      by_cases hf : ku ≤ U.length
      · rw [if_pos hf]; exact do_urgent_full hU hP (by show (ku : Int) ≤ (U.length : Int); omega)
      · rw [if_neg hf]; exact do_urgent_room hU hP (by omega) hl' hN
    · rw [if_neg h1]
      match U, Pl, hU, hP with
      | x :: U, Pl, hU, hP => exact do_urgent hU hP h0 h1
      | [], x :: Pl, hU, hP => exact do_plain hU hP h0 h1
      | [], [], hU, hP => exact do_none hU hP h0 h1 rfl rfl
end Go.Proofs.Ytdcjpgpeedboaaa.MDo
