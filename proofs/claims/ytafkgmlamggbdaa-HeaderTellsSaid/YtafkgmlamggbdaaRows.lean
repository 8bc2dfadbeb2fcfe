/-
  No cell of these rows narrows 'for every input' (looked for: loops, veiled, ifaces, maps, wideKeys, modest, calm, conditions, laid).
  DERIVED. THE GIVEN ROWS OF THIS SEAT. 6 by the template 'for every input the law returns true; each argument reads behind the call as it read before'; 0 by the template 'total and deterministic' (their statements: YtafkgmlamggbdaaTotals.lean).
  GIVEN WITH THE SEED: the statements are not yours to turn. If you find one false, say at which input.
  Laid BY PROGRAM, IN A SANDBOX (cutbox-rows.mjs): the forced cells as the released guide's own fill.sh prints them over the translation 0c7d8634fa721140… (all of the seat's roots in one cut). By AI agents, Wed Nov 11 2026. No macro, syntax, notation, axiom, sorry.
-/
import Derived.Test.YtafkgmlamggbdaaChecked
import GoSem.Claim
import GoSem.ClaimJoined
import GoSem.ClaimMapViews
import Derived.JoinedTies
import Derived.KernelRfl
namespace Go.Proofs.Ytafkgmlamggbdaa
/- THE CELL 'sum', in the pinned program and in every row, IS THE sha256 OF THE DUMP (.gsa) THAT YtafkgmlamggbdaaProg.lean LOADS. Nothing in Lean hashes anything: it is a label: what it is worth is what the hold of that sum in a sandbox is worth. -/
noncomputable def Try.pinned : Pinned := { name := "ytafkgmlamggbdaa", sum := "0c7d8634fa7211402bd885847fd73a10764bdd0561af7ccc3b4cb97a67558e1e", checked := Try.checked }
namespace Rows
def none {H : Type} : Left H := { results := [], args := [] }

/-- 'retrogradelaw05.HeaderTells': WHATEVER THE INPUT: true; the input reads as it did. -/
def headerTellsSpec : ChangeSpec := { name := "headerTells", fn := fun _ => fun
  | [d1, d2, d3, d4, d5, d6] => { results := [.lit (.bool true)], args := [d1, d2, d3, d4, d5, d6] }
  | _ => none }
def headerTellsRow : OpenClaim := { program := "ytafkgmlamggbdaa", sum := "0c7d8634fa7211402bd885847fd73a10764bdd0561af7ccc3b4cb97a67558e1e", func := "retrograde/retrogradelaw05.HeaderTells", spec := "headerTells", inPlace := ["internal/abi.NoEscape"], apart := false }
def HeaderTellsSaid : Prop := headerTellsRow.holds Try.pinned (OpenSpec.ofChange headerTellsSpec)

/-- ITS FALSE NEIGHBOUR: 'it returns false'. Refute it at one input. -/
def headerTellsWrong : ChangeSpec := { name := "headerTells", fn := fun _ => fun
  | [d1, d2, d3, d4, d5, d6] => { results := [.lit (.bool false)], args := [d1, d2, d3, d4, d5, d6] }
  | _ => none }
def HeaderTellsWrongFalsely : Prop := headerTellsRow.holds Try.pinned (OpenSpec.ofChange headerTellsWrong)

/-- 'retrogradelaw05.HeaderBytes': WHATEVER THE INPUT: true; the input reads as it did. -/
def headerBytesSpec : ChangeSpec := { name := "headerBytes", fn := fun _ => fun
  | [d] => { results := [.lit (.bool true)], args := [d] }
  | _ => none }
def headerBytesRow : OpenClaim := { program := "ytafkgmlamggbdaa", sum := "0c7d8634fa7211402bd885847fd73a10764bdd0561af7ccc3b4cb97a67558e1e", func := "retrograde/retrogradelaw05.HeaderBytes", spec := "headerBytes", inPlace := ["internal/abi.NoEscape"], apart := false }
def HeaderBytesSaid : Prop := headerBytesRow.holds Try.pinned (OpenSpec.ofChange headerBytesSpec)

/-- ITS FALSE NEIGHBOUR: 'it returns false'. Refute it at one input. -/
def headerBytesWrong : ChangeSpec := { name := "headerBytes", fn := fun _ => fun
  | [d] => { results := [.lit (.bool false)], args := [d] }
  | _ => none }
def HeaderBytesWrongFalsely : Prop := headerBytesRow.holds Try.pinned (OpenSpec.ofChange headerBytesWrong)

/-- 'retrogradelaw05.HeaderSums': WHATEVER THE INPUT: true; the input reads as it did. -/
def headerSumsSpec : ChangeSpec := { name := "headerSums", fn := fun _ => fun
  | [d1, d2, d3, d4, d5] => { results := [.lit (.bool true)], args := [d1, d2, d3, d4, d5] }
  | _ => none }
def headerSumsRow : OpenClaim := { program := "ytafkgmlamggbdaa", sum := "0c7d8634fa7211402bd885847fd73a10764bdd0561af7ccc3b4cb97a67558e1e", func := "retrograde/retrogradelaw05.HeaderSums", spec := "headerSums", inPlace := ["internal/abi.NoEscape"], apart := false }
def HeaderSumsSaid : Prop := headerSumsRow.holds Try.pinned (OpenSpec.ofChange headerSumsSpec)

/-- ITS FALSE NEIGHBOUR: 'it returns false'. Refute it at one input. -/
def headerSumsWrong : ChangeSpec := { name := "headerSums", fn := fun _ => fun
  | [d1, d2, d3, d4, d5] => { results := [.lit (.bool false)], args := [d1, d2, d3, d4, d5] }
  | _ => none }
def HeaderSumsWrongFalsely : Prop := headerSumsRow.holds Try.pinned (OpenSpec.ofChange headerSumsWrong)

/-- 'retrogradelaw05.HeaderRest': WHATEVER THE INPUT: true; the input reads as it did. -/
def headerRestSpec : ChangeSpec := { name := "headerRest", fn := fun _ => fun
  | [d1, d2, d3, d4, d5] => { results := [.lit (.bool true)], args := [d1, d2, d3, d4, d5] }
  | _ => none }
def headerRestRow : OpenClaim := { program := "ytafkgmlamggbdaa", sum := "0c7d8634fa7211402bd885847fd73a10764bdd0561af7ccc3b4cb97a67558e1e", func := "retrograde/retrogradelaw05.HeaderRest", spec := "headerRest", inPlace := ["internal/abi.NoEscape"], apart := false }
def HeaderRestSaid : Prop := headerRestRow.holds Try.pinned (OpenSpec.ofChange headerRestSpec)

/-- ITS FALSE NEIGHBOUR: 'it returns false'. Refute it at one input. -/
def headerRestWrong : ChangeSpec := { name := "headerRest", fn := fun _ => fun
  | [d1, d2, d3, d4, d5] => { results := [.lit (.bool false)], args := [d1, d2, d3, d4, d5] }
  | _ => none }
def HeaderRestWrongFalsely : Prop := headerRestRow.holds Try.pinned (OpenSpec.ofChange headerRestWrong)

/-- 'retrogradelaw05.HeaderWhole': WHATEVER THE INPUT: true; the input reads as it did. -/
def headerWholeSpec : ChangeSpec := { name := "headerWhole", fn := fun _ => fun
  | [d1, d2, d3, d4, d5, d6] => { results := [.lit (.bool true)], args := [d1, d2, d3, d4, d5, d6] }
  | _ => none }
def headerWholeRow : OpenClaim := { program := "ytafkgmlamggbdaa", sum := "0c7d8634fa7211402bd885847fd73a10764bdd0561af7ccc3b4cb97a67558e1e", func := "retrograde/retrogradelaw05.HeaderWhole", spec := "headerWhole", inPlace := ["internal/abi.NoEscape"], apart := false }
def HeaderWholeSaid : Prop := headerWholeRow.holds Try.pinned (OpenSpec.ofChange headerWholeSpec)

/-- ITS FALSE NEIGHBOUR: 'it returns false'. Refute it at one input. -/
def headerWholeWrong : ChangeSpec := { name := "headerWhole", fn := fun _ => fun
  | [d1, d2, d3, d4, d5, d6] => { results := [.lit (.bool false)], args := [d1, d2, d3, d4, d5, d6] }
  | _ => none }
def HeaderWholeWrongFalsely : Prop := headerWholeRow.holds Try.pinned (OpenSpec.ofChange headerWholeWrong)

/-- 'retrogradelaw05.HeaderShort': WHATEVER THE INPUT: true; the input reads as it did. -/
def headerShortSpec : ChangeSpec := { name := "headerShort", fn := fun _ => fun
  | [d] => { results := [.lit (.bool true)], args := [d] }
  | _ => none }
def headerShortRow : OpenClaim := { program := "ytafkgmlamggbdaa", sum := "0c7d8634fa7211402bd885847fd73a10764bdd0561af7ccc3b4cb97a67558e1e", func := "retrograde/retrogradelaw05.HeaderShort", spec := "headerShort", inPlace := ["internal/abi.NoEscape"], apart := false }
def HeaderShortSaid : Prop := headerShortRow.holds Try.pinned (OpenSpec.ofChange headerShortSpec)

/-- ITS FALSE NEIGHBOUR: 'it returns false'. Refute it at one input. -/
def headerShortWrong : ChangeSpec := { name := "headerShort", fn := fun _ => fun
  | [d] => { results := [.lit (.bool false)], args := [d] }
  | _ => none }
def HeaderShortWrongFalsely : Prop := headerShortRow.holds Try.pinned (OpenSpec.ofChange headerShortWrong)

/- THE SECOND FORM. 'bulk': how many values and letters a reading holds, each counted each time it is reached (what is shared counts as often as it is met; a slice's spare places count too). A statement '..UptoSaid' is the law's where the arguments, and the package variables that the reading takes, are together of bulk at most 1048576: NARROWER than '..Said'. Prove '..Said' where nothing that the law and all that it calls make is longer than what came in: it says more and counts as full. Else prove '..UptoSaid'. A law counts once. -/
mutual
def uptoBulk {H : Type} : DataW H → Nat
  | .lit (.string bytes) => bytes.length + 1
  | .lit _ => 1
  | .nil => 1
  | .ptr d => uptoBulk d + 1
  | .slice elems spare => uptoBulkAll elems + uptoBulkAll spare + 1
  | .agg parts => uptoBulkAll parts + 1
  | .iface _ d => uptoBulk d + 1
  | .map entries => uptoBulkEntries entries + 1
  | .held _ => 1
def uptoBulkAll {H : Type} : List (DataW H) → Nat
  | [] => 0
  | d :: r => uptoBulk d + uptoBulkAll r
def uptoBulkEntries {H : Type} : List (Lit × DataW H) → Nat
  | [] => 0
  | x :: r => uptoBulkEntry x + uptoBulkEntries r
def uptoBulkEntry {H : Type} : Lit × DataW H → Nat
  | (.string bytes, d) => bytes.length + uptoBulk d + 1
  | (_, d) => uptoBulk d + 1
 end
def uptoSmall : (H : Type) → List (DataW H) → Bool := fun _ ds => decide (uptoBulkAll ds ≤ 1048576)
def OpenSpec.upto (s : _root_.Go.ChangeSpec) : _root_.Go.OpenSpec := { _root_.Go.OpenSpec.ofChange s with cond := some uptoSmall }

/-- 'retrogradelaw05.HeaderTells', WHERE WHAT IT READS IS OF BULK AT MOST 1048576: true; the input reads as it did. -/
def headerTellsUptoRow : OpenClaim := { program := "ytafkgmlamggbdaa", sum := "0c7d8634fa7211402bd885847fd73a10764bdd0561af7ccc3b4cb97a67558e1e", func := "retrograde/retrogradelaw05.HeaderTells", spec := "headerTells", inPlace := ["internal/abi.NoEscape"], apart := false, narrowed := true }
def HeaderTellsUptoSaid : Prop := headerTellsUptoRow.holds Try.pinned (OpenSpec.upto headerTellsSpec)

/-- 'retrogradelaw05.HeaderBytes', WHERE WHAT IT READS IS OF BULK AT MOST 1048576: true; the input reads as it did. -/
def headerBytesUptoRow : OpenClaim := { program := "ytafkgmlamggbdaa", sum := "0c7d8634fa7211402bd885847fd73a10764bdd0561af7ccc3b4cb97a67558e1e", func := "retrograde/retrogradelaw05.HeaderBytes", spec := "headerBytes", inPlace := ["internal/abi.NoEscape"], apart := false, narrowed := true }
def HeaderBytesUptoSaid : Prop := headerBytesUptoRow.holds Try.pinned (OpenSpec.upto headerBytesSpec)

/-- 'retrogradelaw05.HeaderSums', WHERE WHAT IT READS IS OF BULK AT MOST 1048576: true; the input reads as it did. -/
def headerSumsUptoRow : OpenClaim := { program := "ytafkgmlamggbdaa", sum := "0c7d8634fa7211402bd885847fd73a10764bdd0561af7ccc3b4cb97a67558e1e", func := "retrograde/retrogradelaw05.HeaderSums", spec := "headerSums", inPlace := ["internal/abi.NoEscape"], apart := false, narrowed := true }
def HeaderSumsUptoSaid : Prop := headerSumsUptoRow.holds Try.pinned (OpenSpec.upto headerSumsSpec)

/-- 'retrogradelaw05.HeaderRest', WHERE WHAT IT READS IS OF BULK AT MOST 1048576: true; the input reads as it did. -/
def headerRestUptoRow : OpenClaim := { program := "ytafkgmlamggbdaa", sum := "0c7d8634fa7211402bd885847fd73a10764bdd0561af7ccc3b4cb97a67558e1e", func := "retrograde/retrogradelaw05.HeaderRest", spec := "headerRest", inPlace := ["internal/abi.NoEscape"], apart := false, narrowed := true }
def HeaderRestUptoSaid : Prop := headerRestUptoRow.holds Try.pinned (OpenSpec.upto headerRestSpec)

/-- 'retrogradelaw05.HeaderWhole', WHERE WHAT IT READS IS OF BULK AT MOST 1048576: true; the input reads as it did. -/
def headerWholeUptoRow : OpenClaim := { program := "ytafkgmlamggbdaa", sum := "0c7d8634fa7211402bd885847fd73a10764bdd0561af7ccc3b4cb97a67558e1e", func := "retrograde/retrogradelaw05.HeaderWhole", spec := "headerWhole", inPlace := ["internal/abi.NoEscape"], apart := false, narrowed := true }
def HeaderWholeUptoSaid : Prop := headerWholeUptoRow.holds Try.pinned (OpenSpec.upto headerWholeSpec)

/-- 'retrogradelaw05.HeaderShort', WHERE WHAT IT READS IS OF BULK AT MOST 1048576: true; the input reads as it did. -/
def headerShortUptoRow : OpenClaim := { program := "ytafkgmlamggbdaa", sum := "0c7d8634fa7211402bd885847fd73a10764bdd0561af7ccc3b4cb97a67558e1e", func := "retrograde/retrogradelaw05.HeaderShort", spec := "headerShort", inPlace := ["internal/abi.NoEscape"], apart := false, narrowed := true }
def HeaderShortUptoSaid : Prop := headerShortUptoRow.holds Try.pinned (OpenSpec.upto headerShortSpec)

end Rows
end Go.Proofs.Ytafkgmlamggbdaa
