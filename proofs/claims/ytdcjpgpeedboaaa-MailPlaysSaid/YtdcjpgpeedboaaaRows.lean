/-
  No cell of these rows narrows 'for every input' (looked for: loops, veiled, ifaces, maps, wideKeys, modest, calm, conditions, laid).
  DERIVED. THE GIVEN ROWS OF THIS SEAT. 6 by the template 'for every input the law returns true; each argument reads behind the call as it read before'; 0 by the template 'total and deterministic' (their statements: YtdcjpgpeedboaaaTotals.lean).
  GIVEN WITH THE SEED: the statements are not yours to turn. If you find one false, say at which input.
  Laid BY PROGRAM, IN A SANDBOX (cutbox-rows.mjs): the forced cells as the released guide's own fill.sh prints them over the translation b102f94258e21776… (all of the seat's roots in one cut). By AI agents, Wed Nov 11 2026. No macro, syntax, notation, axiom, sorry.
-/
import Derived.Test.YtdcjpgpeedboaaaChecked
import GoSem.Claim
import GoSem.ClaimJoined
import GoSem.ClaimMapViews
import Derived.JoinedTies
import Derived.KernelRfl
namespace Go.Proofs.Ytdcjpgpeedboaaa
/- THE CELL 'sum', in the pinned program and in every row, IS THE sha256 OF THE DUMP (.gsa) THAT YtdcjpgpeedboaaaProg.lean LOADS. Nothing in Lean hashes anything: it is a label: what it is worth is what the hold of that sum in a sandbox is worth. -/
noncomputable def Try.pinned : Pinned := { name := "ytdcjpgpeedboaaa", sum := "b102f94258e217766b7850009c87c80a0e88367a48263a7830ea4d3e8daf1b4d", checked := Try.checked }
namespace Rows
def none {H : Type} : Left H := { results := [], args := [] }

/-- 'planimeterlaw19.CacheTurns': WHATEVER THE INPUT: true; the input reads as it did. -/
def cacheTurnsSpec : ChangeSpec := { name := "cacheTurns", fn := fun _ => fun
  | [d1, d2] => { results := [.lit (.bool true)], args := [d1, d2] }
  | _ => none }
def cacheTurnsRow : OpenClaim := { program := "ytdcjpgpeedboaaa", sum := "b102f94258e217766b7850009c87c80a0e88367a48263a7830ea4d3e8daf1b4d", func := "planimeter/planimeterlaw19.CacheTurns", spec := "cacheTurns", apart := false }
def CacheTurnsSaid : Prop := cacheTurnsRow.holds Try.pinned (OpenSpec.ofChange cacheTurnsSpec)

/-- ITS FALSE NEIGHBOUR: 'it returns false'. Refute it at one input. -/
def cacheTurnsWrong : ChangeSpec := { name := "cacheTurns", fn := fun _ => fun
  | [d1, d2] => { results := [.lit (.bool false)], args := [d1, d2] }
  | _ => none }
def CacheTurnsWrongFalsely : Prop := cacheTurnsRow.holds Try.pinned (OpenSpec.ofChange cacheTurnsWrong)

/-- 'planimeterlaw18.MailPlays': WHATEVER THE INPUT: true; the input reads as it did. -/
def mailPlaysSpec : ChangeSpec := { name := "mailPlays", fn := fun _ => fun
  | [d1, d2, d3] => { results := [.lit (.bool true)], args := [d1, d2, d3] }
  | _ => none }
def mailPlaysRow : OpenClaim := { program := "ytdcjpgpeedboaaa", sum := "b102f94258e217766b7850009c87c80a0e88367a48263a7830ea4d3e8daf1b4d", func := "planimeter/planimeterlaw18.MailPlays", spec := "mailPlays", apart := false }
def MailPlaysSaid : Prop := mailPlaysRow.holds Try.pinned (OpenSpec.ofChange mailPlaysSpec)

/-- ITS FALSE NEIGHBOUR: 'it returns false'. Refute it at one input. -/
def mailPlaysWrong : ChangeSpec := { name := "mailPlays", fn := fun _ => fun
  | [d1, d2, d3] => { results := [.lit (.bool false)], args := [d1, d2, d3] }
  | _ => none }
def MailPlaysWrongFalsely : Prop := mailPlaysRow.holds Try.pinned (OpenSpec.ofChange mailPlaysWrong)

/-- 'planimeterlaw18.MailTexts': WHATEVER THE INPUT: true; the input reads as it did. -/
def mailTextsSpec : ChangeSpec := { name := "mailTexts", fn := fun _ => fun
  | [d1, d2] => { results := [.lit (.bool true)], args := [d1, d2] }
  | _ => none }
def mailTextsRow : OpenClaim := { program := "ytdcjpgpeedboaaa", sum := "b102f94258e217766b7850009c87c80a0e88367a48263a7830ea4d3e8daf1b4d", func := "planimeter/planimeterlaw18.MailTexts", spec := "mailTexts", apart := false }
def MailTextsSaid : Prop := mailTextsRow.holds Try.pinned (OpenSpec.ofChange mailTextsSpec)

/-- ITS FALSE NEIGHBOUR: 'it returns false'. Refute it at one input. -/
def mailTextsWrong : ChangeSpec := { name := "mailTexts", fn := fun _ => fun
  | [d1, d2] => { results := [.lit (.bool false)], args := [d1, d2] }
  | _ => none }
def MailTextsWrongFalsely : Prop := mailTextsRow.holds Try.pinned (OpenSpec.ofChange mailTextsWrong)

/-- 'planimeterlaw18.MailSums': WHATEVER THE INPUT: true; the input reads as it did. -/
def mailSumsSpec : ChangeSpec := { name := "mailSums", fn := fun _ => fun
  | [d1, d2] => { results := [.lit (.bool true)], args := [d1, d2] }
  | _ => none }
def mailSumsRow : OpenClaim := { program := "ytdcjpgpeedboaaa", sum := "b102f94258e217766b7850009c87c80a0e88367a48263a7830ea4d3e8daf1b4d", func := "planimeter/planimeterlaw18.MailSums", spec := "mailSums", apart := false }
def MailSumsSaid : Prop := mailSumsRow.holds Try.pinned (OpenSpec.ofChange mailSumsSpec)

/-- ITS FALSE NEIGHBOUR: 'it returns false'. Refute it at one input. -/
def mailSumsWrong : ChangeSpec := { name := "mailSums", fn := fun _ => fun
  | [d1, d2] => { results := [.lit (.bool false)], args := [d1, d2] }
  | _ => none }
def MailSumsWrongFalsely : Prop := mailSumsRow.holds Try.pinned (OpenSpec.ofChange mailSumsWrong)

/-- 'planimeterlaw19.CachePlays': WHATEVER THE INPUT: true; the input reads as it did. -/
def cachePlaysSpec : ChangeSpec := { name := "cachePlays", fn := fun _ => fun
  | [d1, d2] => { results := [.lit (.bool true)], args := [d1, d2] }
  | _ => none }
def cachePlaysRow : OpenClaim := { program := "ytdcjpgpeedboaaa", sum := "b102f94258e217766b7850009c87c80a0e88367a48263a7830ea4d3e8daf1b4d", func := "planimeter/planimeterlaw19.CachePlays", spec := "cachePlays", unfollowed := true, recurses := true, apart := false }
def CachePlaysSaid : Prop := cachePlaysRow.holds Try.pinned (OpenSpec.ofChange cachePlaysSpec)

/-- ITS FALSE NEIGHBOUR: 'it returns false'. Refute it at one input. -/
def cachePlaysWrong : ChangeSpec := { name := "cachePlays", fn := fun _ => fun
  | [d1, d2] => { results := [.lit (.bool false)], args := [d1, d2] }
  | _ => none }
def CachePlaysWrongFalsely : Prop := cachePlaysRow.holds Try.pinned (OpenSpec.ofChange cachePlaysWrong)

/-- 'planimeterlaw19.CacheInts': WHATEVER THE INPUT: true; the input reads as it did. -/
def cacheIntsSpec : ChangeSpec := { name := "cacheInts", fn := fun _ => fun
  | [d1, d2] => { results := [.lit (.bool true)], args := [d1, d2] }
  | _ => none }
def cacheIntsRow : OpenClaim := { program := "ytdcjpgpeedboaaa", sum := "b102f94258e217766b7850009c87c80a0e88367a48263a7830ea4d3e8daf1b4d", func := "planimeter/planimeterlaw19.CacheInts", spec := "cacheInts", unfollowed := true, recurses := true, apart := false }
def CacheIntsSaid : Prop := cacheIntsRow.holds Try.pinned (OpenSpec.ofChange cacheIntsSpec)

/-- ITS FALSE NEIGHBOUR: 'it returns false'. Refute it at one input. -/
def cacheIntsWrong : ChangeSpec := { name := "cacheInts", fn := fun _ => fun
  | [d1, d2] => { results := [.lit (.bool false)], args := [d1, d2] }
  | _ => none }
def CacheIntsWrongFalsely : Prop := cacheIntsRow.holds Try.pinned (OpenSpec.ofChange cacheIntsWrong)

/- THE SECOND FORM. 'bulk': how many values and letters a reading holds, each counted each time it is reached (what is shared counts as often as it is met; a slice's spare places count too). A statement '..UptoSaid' is the law's where the arguments, and the package variables that the reading takes, are together of bulk at most 1048576: NARROWER than '..Said'. Prove '..Said' where nothing that the law and all that it calls make is longer than what came in: it says more and counts as full. Else prove '..UptoSaid'. A law counts once. -/
mutual
def uptoBulk {H : Type} : DataW H → Nat
  | .lit (.string bytes) => bytes.length + 1
  | .lit _ => 1
  | .nil => 1
  | .ptr d => uptoBulk d + 1
  | .slice elems spare => uptoBulkAll elems + uptoBulkAll spare + 1
  | .agg parts => uptoBulkAll parts + 1
  | .iface _ d => uptoBulk d + 1
  | .map entries => uptoBulkEntries entries + 1
  | .held _ => 1
def uptoBulkAll {H : Type} : List (DataW H) → Nat
  | [] => 0
  | d :: r => uptoBulk d + uptoBulkAll r
def uptoBulkEntries {H : Type} : List (Lit × DataW H) → Nat
  | [] => 0
  | x :: r => uptoBulkEntry x + uptoBulkEntries r
def uptoBulkEntry {H : Type} : Lit × DataW H → Nat
  | (.string bytes, d) => bytes.length + uptoBulk d + 1
  | (_, d) => uptoBulk d + 1
 end
def uptoSmall : (H : Type) → List (DataW H) → Bool := fun _ ds => decide (uptoBulkAll ds ≤ 1048576)
def OpenSpec.upto (s : _root_.Go.ChangeSpec) : _root_.Go.OpenSpec := { _root_.Go.OpenSpec.ofChange s with cond := some uptoSmall }

/-- 'planimeterlaw19.CacheTurns', WHERE WHAT IT READS IS OF BULK AT MOST 1048576: true; the input reads as it did. -/
def cacheTurnsUptoRow : OpenClaim := { program := "ytdcjpgpeedboaaa", sum := "b102f94258e217766b7850009c87c80a0e88367a48263a7830ea4d3e8daf1b4d", func := "planimeter/planimeterlaw19.CacheTurns", spec := "cacheTurns", apart := false, narrowed := true }
def CacheTurnsUptoSaid : Prop := cacheTurnsUptoRow.holds Try.pinned (OpenSpec.upto cacheTurnsSpec)

/-- 'planimeterlaw18.MailPlays', WHERE WHAT IT READS IS OF BULK AT MOST 1048576: true; the input reads as it did. -/
def mailPlaysUptoRow : OpenClaim := { program := "ytdcjpgpeedboaaa", sum := "b102f94258e217766b7850009c87c80a0e88367a48263a7830ea4d3e8daf1b4d", func := "planimeter/planimeterlaw18.MailPlays", spec := "mailPlays", apart := false, narrowed := true }
def MailPlaysUptoSaid : Prop := mailPlaysUptoRow.holds Try.pinned (OpenSpec.upto mailPlaysSpec)

/-- 'planimeterlaw18.MailTexts', WHERE WHAT IT READS IS OF BULK AT MOST 1048576: true; the input reads as it did. -/
def mailTextsUptoRow : OpenClaim := { program := "ytdcjpgpeedboaaa", sum := "b102f94258e217766b7850009c87c80a0e88367a48263a7830ea4d3e8daf1b4d", func := "planimeter/planimeterlaw18.MailTexts", spec := "mailTexts", apart := false, narrowed := true }
def MailTextsUptoSaid : Prop := mailTextsUptoRow.holds Try.pinned (OpenSpec.upto mailTextsSpec)

/-- 'planimeterlaw18.MailSums', WHERE WHAT IT READS IS OF BULK AT MOST 1048576: true; the input reads as it did. -/
def mailSumsUptoRow : OpenClaim := { program := "ytdcjpgpeedboaaa", sum := "b102f94258e217766b7850009c87c80a0e88367a48263a7830ea4d3e8daf1b4d", func := "planimeter/planimeterlaw18.MailSums", spec := "mailSums", apart := false, narrowed := true }
def MailSumsUptoSaid : Prop := mailSumsUptoRow.holds Try.pinned (OpenSpec.upto mailSumsSpec)

/-- 'planimeterlaw19.CachePlays', WHERE WHAT IT READS IS OF BULK AT MOST 1048576: true; the input reads as it did. -/
def cachePlaysUptoRow : OpenClaim := { program := "ytdcjpgpeedboaaa", sum := "b102f94258e217766b7850009c87c80a0e88367a48263a7830ea4d3e8daf1b4d", func := "planimeter/planimeterlaw19.CachePlays", spec := "cachePlays", unfollowed := true, recurses := true, apart := false, narrowed := true }
def CachePlaysUptoSaid : Prop := cachePlaysUptoRow.holds Try.pinned (OpenSpec.upto cachePlaysSpec)

/-- 'planimeterlaw19.CacheInts', WHERE WHAT IT READS IS OF BULK AT MOST 1048576: true; the input reads as it did. -/
def cacheIntsUptoRow : OpenClaim := { program := "ytdcjpgpeedboaaa", sum := "b102f94258e217766b7850009c87c80a0e88367a48263a7830ea4d3e8daf1b4d", func := "planimeter/planimeterlaw19.CacheInts", spec := "cacheInts", unfollowed := true, recurses := true, apart := false, narrowed := true }
def CacheIntsUptoSaid : Prop := cacheIntsUptoRow.holds Try.pinned (OpenSpec.upto cacheIntsSpec)

end Rows
end Go.Proofs.Ytdcjpgpeedboaaa
