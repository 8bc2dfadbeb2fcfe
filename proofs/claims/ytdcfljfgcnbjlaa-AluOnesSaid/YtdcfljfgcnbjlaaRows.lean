/-
  No cell of these rows narrows 'for every input' (looked for: loops, veiled, ifaces, maps, wideKeys, modest, calm, conditions, laid).
  DERIVED. THE GIVEN ROWS OF THIS SEAT. 7 by the template 'for every input the law returns true; each argument reads behind the call as it read before'; 0 by the template 'total and deterministic' (their statements: YtdcfljfgcnbjlaaTotals.lean).
  GIVEN WITH THE SEED: the statements are not yours to turn. If you find one false, say at which input.
  Laid BY PROGRAM, IN A SANDBOX (cutbox-rows.mjs): the forced cells as the released guide's own fill.sh prints them over the translation d181cc0762d06a9d… (all of the seat's roots in one cut). By AI agents, Wed Nov 11 2026. No macro, syntax, notation, axiom, sorry.
-/
import Derived.Test.YtdcfljfgcnbjlaaChecked
import GoSem.Claim
import GoSem.ClaimJoined
import GoSem.ClaimMapViews
import Derived.JoinedTies
import Derived.KernelRfl
namespace Go.Proofs.Ytdcfljfgcnbjlaa
/- THE CELL 'sum', in the pinned program and in every row, IS THE sha256 OF THE DUMP (.gsa) THAT YtdcfljfgcnbjlaaProg.lean LOADS. Nothing in Lean hashes anything: it is a label: what it is worth is what the hold of that sum in a sandbox is worth. -/
noncomputable def Try.pinned : Pinned := { name := "ytdcfljfgcnbjlaa", sum := "d181cc0762d06a9d27bf6604dd0992fd7f4bad6cb1434a9d78752d94e1eabe55", checked := Try.checked }
namespace Rows
def none {H : Type} : Left H := { results := [], args := [] }

/-- 'retrogradelaw01.AluDigits': WHATEVER THE INPUT: true; the input reads as it did. -/
def aluDigitsSpec : ChangeSpec := { name := "aluDigits", fn := fun _ => fun
  | [d1, d2, d3] => { results := [.lit (.bool true)], args := [d1, d2, d3] }
  | _ => none }
def aluDigitsRow : OpenClaim := { program := "ytdcfljfgcnbjlaa", sum := "d181cc0762d06a9d27bf6604dd0992fd7f4bad6cb1434a9d78752d94e1eabe55", func := "retrograde/retrogradelaw01.AluDigits", spec := "aluDigits", apart := false }
def AluDigitsSaid : Prop := aluDigitsRow.holds Try.pinned (OpenSpec.ofChange aluDigitsSpec)

/-- ITS FALSE NEIGHBOUR: 'it returns false'. Refute it at one input. -/
def aluDigitsWrong : ChangeSpec := { name := "aluDigits", fn := fun _ => fun
  | [d1, d2, d3] => { results := [.lit (.bool false)], args := [d1, d2, d3] }
  | _ => none }
def AluDigitsWrongFalsely : Prop := aluDigitsRow.holds Try.pinned (OpenSpec.ofChange aluDigitsWrong)

/-- 'retrogradelaw01.AluBack': WHATEVER THE INPUT: true; the input reads as it did. -/
def aluBackSpec : ChangeSpec := { name := "aluBack", fn := fun _ => fun
  | [d1, d2, d3] => { results := [.lit (.bool true)], args := [d1, d2, d3] }
  | _ => none }
def aluBackRow : OpenClaim := { program := "ytdcfljfgcnbjlaa", sum := "d181cc0762d06a9d27bf6604dd0992fd7f4bad6cb1434a9d78752d94e1eabe55", func := "retrograde/retrogradelaw01.AluBack", spec := "aluBack", apart := false }
def AluBackSaid : Prop := aluBackRow.holds Try.pinned (OpenSpec.ofChange aluBackSpec)

/-- ITS FALSE NEIGHBOUR: 'it returns false'. Refute it at one input. -/
def aluBackWrong : ChangeSpec := { name := "aluBack", fn := fun _ => fun
  | [d1, d2, d3] => { results := [.lit (.bool false)], args := [d1, d2, d3] }
  | _ => none }
def AluBackWrongFalsely : Prop := aluBackRow.holds Try.pinned (OpenSpec.ofChange aluBackWrong)

/-- 'retrogradelaw01.AluWords': WHATEVER THE INPUT: true; the input reads as it did. -/
def aluWordsSpec : ChangeSpec := { name := "aluWords", fn := fun _ => fun
  | [d1, d2, d3, d4] => { results := [.lit (.bool true)], args := [d1, d2, d3, d4] }
  | _ => none }
def aluWordsRow : OpenClaim := { program := "ytdcfljfgcnbjlaa", sum := "d181cc0762d06a9d27bf6604dd0992fd7f4bad6cb1434a9d78752d94e1eabe55", func := "retrograde/retrogradelaw01.AluWords", spec := "aluWords", apart := false }
def AluWordsSaid : Prop := aluWordsRow.holds Try.pinned (OpenSpec.ofChange aluWordsSpec)

/-- ITS FALSE NEIGHBOUR: 'it returns false'. Refute it at one input. -/
def aluWordsWrong : ChangeSpec := { name := "aluWords", fn := fun _ => fun
  | [d1, d2, d3, d4] => { results := [.lit (.bool false)], args := [d1, d2, d3, d4] }
  | _ => none }
def AluWordsWrongFalsely : Prop := aluWordsRow.holds Try.pinned (OpenSpec.ofChange aluWordsWrong)

/-- 'retrogradelaw01.AluSums': WHATEVER THE INPUT: true; the input reads as it did. -/
def aluSumsSpec : ChangeSpec := { name := "aluSums", fn := fun _ => fun
  | [d1, d2, d3] => { results := [.lit (.bool true)], args := [d1, d2, d3] }
  | _ => none }
def aluSumsRow : OpenClaim := { program := "ytdcfljfgcnbjlaa", sum := "d181cc0762d06a9d27bf6604dd0992fd7f4bad6cb1434a9d78752d94e1eabe55", func := "retrograde/retrogradelaw01.AluSums", spec := "aluSums", apart := false }
def AluSumsSaid : Prop := aluSumsRow.holds Try.pinned (OpenSpec.ofChange aluSumsSpec)

/-- ITS FALSE NEIGHBOUR: 'it returns false'. Refute it at one input. -/
def aluSumsWrong : ChangeSpec := { name := "aluSums", fn := fun _ => fun
  | [d1, d2, d3] => { results := [.lit (.bool false)], args := [d1, d2, d3] }
  | _ => none }
def AluSumsWrongFalsely : Prop := aluSumsRow.holds Try.pinned (OpenSpec.ofChange aluSumsWrong)

/-- 'retrogradelaw01.AluTurns': WHATEVER THE INPUT: true; the input reads as it did. -/
def aluTurnsSpec : ChangeSpec := { name := "aluTurns", fn := fun _ => fun
  | [d1, d2] => { results := [.lit (.bool true)], args := [d1, d2] }
  | _ => none }
def aluTurnsRow : OpenClaim := { program := "ytdcfljfgcnbjlaa", sum := "d181cc0762d06a9d27bf6604dd0992fd7f4bad6cb1434a9d78752d94e1eabe55", func := "retrograde/retrogradelaw01.AluTurns", spec := "aluTurns", apart := false }
def AluTurnsSaid : Prop := aluTurnsRow.holds Try.pinned (OpenSpec.ofChange aluTurnsSpec)

/-- ITS FALSE NEIGHBOUR: 'it returns false'. Refute it at one input. -/
def aluTurnsWrong : ChangeSpec := { name := "aluTurns", fn := fun _ => fun
  | [d1, d2] => { results := [.lit (.bool false)], args := [d1, d2] }
  | _ => none }
def AluTurnsWrongFalsely : Prop := aluTurnsRow.holds Try.pinned (OpenSpec.ofChange aluTurnsWrong)

/-- 'retrogradelaw01.AluOnes': WHATEVER THE INPUT: true; the input reads as it did. -/
def aluOnesSpec : ChangeSpec := { name := "aluOnes", fn := fun _ => fun
  | [d1, d2, d3] => { results := [.lit (.bool true)], args := [d1, d2, d3] }
  | _ => none }
def aluOnesRow : OpenClaim := { program := "ytdcfljfgcnbjlaa", sum := "d181cc0762d06a9d27bf6604dd0992fd7f4bad6cb1434a9d78752d94e1eabe55", func := "retrograde/retrogradelaw01.AluOnes", spec := "aluOnes", apart := false }
def AluOnesSaid : Prop := aluOnesRow.holds Try.pinned (OpenSpec.ofChange aluOnesSpec)

/-- ITS FALSE NEIGHBOUR: 'it returns false'. Refute it at one input. -/
def aluOnesWrong : ChangeSpec := { name := "aluOnes", fn := fun _ => fun
  | [d1, d2, d3] => { results := [.lit (.bool false)], args := [d1, d2, d3] }
  | _ => none }
def AluOnesWrongFalsely : Prop := aluOnesRow.holds Try.pinned (OpenSpec.ofChange aluOnesWrong)

/-- 'retrogradelaw01.AluFlags': WHATEVER THE INPUT: true; the input reads as it did. -/
def aluFlagsSpec : ChangeSpec := { name := "aluFlags", fn := fun _ => fun
  | [d1, d2, d3, d4, d5] => { results := [.lit (.bool true)], args := [d1, d2, d3, d4, d5] }
  | _ => none }
def aluFlagsRow : OpenClaim := { program := "ytdcfljfgcnbjlaa", sum := "d181cc0762d06a9d27bf6604dd0992fd7f4bad6cb1434a9d78752d94e1eabe55", func := "retrograde/retrogradelaw01.AluFlags", spec := "aluFlags", apart := false }
def AluFlagsSaid : Prop := aluFlagsRow.holds Try.pinned (OpenSpec.ofChange aluFlagsSpec)

/-- ITS FALSE NEIGHBOUR: 'it returns false'. Refute it at one input. -/
def aluFlagsWrong : ChangeSpec := { name := "aluFlags", fn := fun _ => fun
  | [d1, d2, d3, d4, d5] => { results := [.lit (.bool false)], args := [d1, d2, d3, d4, d5] }
  | _ => none }
def AluFlagsWrongFalsely : Prop := aluFlagsRow.holds Try.pinned (OpenSpec.ofChange aluFlagsWrong)

/- THE SECOND FORM. 'bulk': how many values and letters a reading holds, each counted each time it is reached (what is shared counts as often as it is met; a slice's spare places count too). A statement '..UptoSaid' is the law's where the arguments, and the package variables that the reading takes, are together of bulk at most 1048576: NARROWER than '..Said'. Prove '..Said' where nothing that the law and all that it calls make is longer than what came in: it says more and counts as full. Else prove '..UptoSaid'. A law counts once. -/
mutual
def uptoBulk {H : Type} : DataW H → Nat
  | .lit (.string bytes) => bytes.length + 1
  | .lit _ => 1
  | .nil => 1
  | .ptr d => uptoBulk d + 1
  | .slice elems spare => uptoBulkAll elems + uptoBulkAll spare + 1
  | .agg parts => uptoBulkAll parts + 1
  | .iface _ d => uptoBulk d + 1
  | .map entries => uptoBulkEntries entries + 1
  | .held _ => 1
def uptoBulkAll {H : Type} : List (DataW H) → Nat
  | [] => 0
  | d :: r => uptoBulk d + uptoBulkAll r
def uptoBulkEntries {H : Type} : List (Lit × DataW H) → Nat
  | [] => 0
  | x :: r => uptoBulkEntry x + uptoBulkEntries r
def uptoBulkEntry {H : Type} : Lit × DataW H → Nat
  | (.string bytes, d) => bytes.length + uptoBulk d + 1
  | (_, d) => uptoBulk d + 1
 end
def uptoSmall : (H : Type) → List (DataW H) → Bool := fun _ ds => decide (uptoBulkAll ds ≤ 1048576)
def OpenSpec.upto (s : _root_.Go.ChangeSpec) : _root_.Go.OpenSpec := { _root_.Go.OpenSpec.ofChange s with cond := some uptoSmall }

/-- 'retrogradelaw01.AluDigits', WHERE WHAT IT READS IS OF BULK AT MOST 1048576: true; the input reads as it did. -/
def aluDigitsUptoRow : OpenClaim := { program := "ytdcfljfgcnbjlaa", sum := "d181cc0762d06a9d27bf6604dd0992fd7f4bad6cb1434a9d78752d94e1eabe55", func := "retrograde/retrogradelaw01.AluDigits", spec := "aluDigits", apart := false, narrowed := true }
def AluDigitsUptoSaid : Prop := aluDigitsUptoRow.holds Try.pinned (OpenSpec.upto aluDigitsSpec)

/-- 'retrogradelaw01.AluBack', WHERE WHAT IT READS IS OF BULK AT MOST 1048576: true; the input reads as it did. -/
def aluBackUptoRow : OpenClaim := { program := "ytdcfljfgcnbjlaa", sum := "d181cc0762d06a9d27bf6604dd0992fd7f4bad6cb1434a9d78752d94e1eabe55", func := "retrograde/retrogradelaw01.AluBack", spec := "aluBack", apart := false, narrowed := true }
def AluBackUptoSaid : Prop := aluBackUptoRow.holds Try.pinned (OpenSpec.upto aluBackSpec)

/-- 'retrogradelaw01.AluWords', WHERE WHAT IT READS IS OF BULK AT MOST 1048576: true; the input reads as it did. -/
def aluWordsUptoRow : OpenClaim := { program := "ytdcfljfgcnbjlaa", sum := "d181cc0762d06a9d27bf6604dd0992fd7f4bad6cb1434a9d78752d94e1eabe55", func := "retrograde/retrogradelaw01.AluWords", spec := "aluWords", apart := false, narrowed := true }
def AluWordsUptoSaid : Prop := aluWordsUptoRow.holds Try.pinned (OpenSpec.upto aluWordsSpec)

/-- 'retrogradelaw01.AluSums', WHERE WHAT IT READS IS OF BULK AT MOST 1048576: true; the input reads as it did. -/
def aluSumsUptoRow : OpenClaim := { program := "ytdcfljfgcnbjlaa", sum := "d181cc0762d06a9d27bf6604dd0992fd7f4bad6cb1434a9d78752d94e1eabe55", func := "retrograde/retrogradelaw01.AluSums", spec := "aluSums", apart := false, narrowed := true }
def AluSumsUptoSaid : Prop := aluSumsUptoRow.holds Try.pinned (OpenSpec.upto aluSumsSpec)

/-- 'retrogradelaw01.AluTurns', WHERE WHAT IT READS IS OF BULK AT MOST 1048576: true; the input reads as it did. -/
def aluTurnsUptoRow : OpenClaim := { program := "ytdcfljfgcnbjlaa", sum := "d181cc0762d06a9d27bf6604dd0992fd7f4bad6cb1434a9d78752d94e1eabe55", func := "retrograde/retrogradelaw01.AluTurns", spec := "aluTurns", apart := false, narrowed := true }
def AluTurnsUptoSaid : Prop := aluTurnsUptoRow.holds Try.pinned (OpenSpec.upto aluTurnsSpec)

/-- 'retrogradelaw01.AluOnes', WHERE WHAT IT READS IS OF BULK AT MOST 1048576: true; the input reads as it did. -/
def aluOnesUptoRow : OpenClaim := { program := "ytdcfljfgcnbjlaa", sum := "d181cc0762d06a9d27bf6604dd0992fd7f4bad6cb1434a9d78752d94e1eabe55", func := "retrograde/retrogradelaw01.AluOnes", spec := "aluOnes", apart := false, narrowed := true }
def AluOnesUptoSaid : Prop := aluOnesUptoRow.holds Try.pinned (OpenSpec.upto aluOnesSpec)

/-- 'retrogradelaw01.AluFlags', WHERE WHAT IT READS IS OF BULK AT MOST 1048576: true; the input reads as it did. -/
def aluFlagsUptoRow : OpenClaim := { program := "ytdcfljfgcnbjlaa", sum := "d181cc0762d06a9d27bf6604dd0992fd7f4bad6cb1434a9d78752d94e1eabe55", func := "retrograde/retrogradelaw01.AluFlags", spec := "aluFlags", apart := false, narrowed := true }
def AluFlagsUptoSaid : Prop := aluFlagsUptoRow.holds Try.pinned (OpenSpec.upto aluFlagsSpec)

end Rows
end Go.Proofs.Ytdcfljfgcnbjlaa
