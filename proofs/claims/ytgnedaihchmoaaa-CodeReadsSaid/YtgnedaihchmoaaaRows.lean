/-
  No cell of these rows narrows 'for every input' (looked for: loops, veiled, ifaces, maps, wideKeys, modest, calm, conditions, laid).
  DERIVED. THE GIVEN ROWS OF THIS SEAT. 7 by the template 'for every input the law returns true; each argument reads behind the call as it read before'; 0 by the template 'total and deterministic' (their statements: YtgnedaihchmoaaaTotals.lean).
  GIVEN WITH THE SEED: the statements are not yours to turn. If you find one false, say at which input.
  Laid BY PROGRAM, IN A SANDBOX (cutbox-rows.mjs): the forced cells as the released guide's own fill.sh prints them over the translation ef8b899e6f484220… (all of the seat's roots in one cut). By AI agents, Wed Nov 11 2026. No macro, syntax, notation, axiom, sorry.
-/
import Derived.Test.YtgnedaihchmoaaaChecked
import GoSem.Claim
import GoSem.ClaimJoined
import GoSem.ClaimMapViews
import Derived.JoinedTies
import Derived.KernelRfl
namespace Go.Proofs.Ytgnedaihchmoaaa
/- THE CELL 'sum', in the pinned program and in every row, IS THE sha256 OF THE DUMP (.gsa) THAT YtgnedaihchmoaaaProg.lean LOADS. Nothing in Lean hashes anything: it is a label: what it is worth is what the hold of that sum in a sandbox is worth. -/
noncomputable def Try.pinned : Pinned := { name := "ytgnedaihchmoaaa", sum := "ef8b899e6f48422075596a80507f213427797e6e84c42120baf13f5cda67ff0e", checked := Try.checked }
namespace Rows
def none {H : Type} : Left H := { results := [], args := [] }

/-- 'firthlaw06.CodeWrites': WHATEVER THE INPUT: true; the input reads as it did. -/
def codeWritesSpec : ChangeSpec := { name := "codeWrites", fn := fun _ => fun
  | [d] => { results := [.lit (.bool true)], args := [d] }
  | _ => none }
def codeWritesRow : OpenClaim := { program := "ytgnedaihchmoaaa", sum := "ef8b899e6f48422075596a80507f213427797e6e84c42120baf13f5cda67ff0e", func := "firth/firthlaw06.CodeWrites", spec := "codeWrites", unfollowed := true, recurses := true, apart := false }
def CodeWritesSaid : Prop := codeWritesRow.holds Try.pinned (OpenSpec.ofChange codeWritesSpec)

/-- ITS FALSE NEIGHBOUR: 'it returns false'. Refute it at one input. -/
def codeWritesWrong : ChangeSpec := { name := "codeWrites", fn := fun _ => fun
  | [d] => { results := [.lit (.bool false)], args := [d] }
  | _ => none }
def CodeWritesWrongFalsely : Prop := codeWritesRow.holds Try.pinned (OpenSpec.ofChange codeWritesWrong)

/-- 'firthlaw06.CodeReads': WHATEVER THE INPUT: true; the input reads as it did. -/
def codeReadsSpec : ChangeSpec := { name := "codeReads", fn := fun _ => fun
  | [d] => { results := [.lit (.bool true)], args := [d] }
  | _ => none }
def codeReadsRow : OpenClaim := { program := "ytgnedaihchmoaaa", sum := "ef8b899e6f48422075596a80507f213427797e6e84c42120baf13f5cda67ff0e", func := "firth/firthlaw06.CodeReads", spec := "codeReads", unfollowed := true, recurses := true, apart := false }
def CodeReadsSaid : Prop := codeReadsRow.holds Try.pinned (OpenSpec.ofChange codeReadsSpec)

/-- ITS FALSE NEIGHBOUR: 'it returns false'. Refute it at one input. -/
def codeReadsWrong : ChangeSpec := { name := "codeReads", fn := fun _ => fun
  | [d] => { results := [.lit (.bool false)], args := [d] }
  | _ => none }
def CodeReadsWrongFalsely : Prop := codeReadsRow.holds Try.pinned (OpenSpec.ofChange codeReadsWrong)

/-- 'firthlaw06.CodeBack': WHATEVER THE INPUT: true; the input reads as it did. -/
def codeBackSpec : ChangeSpec := { name := "codeBack", fn := fun _ => fun
  | [d1, d2] => { results := [.lit (.bool true)], args := [d1, d2] }
  | _ => none }
def codeBackRow : OpenClaim := { program := "ytgnedaihchmoaaa", sum := "ef8b899e6f48422075596a80507f213427797e6e84c42120baf13f5cda67ff0e", func := "firth/firthlaw06.CodeBack", spec := "codeBack", unfollowed := true, recurses := true, apart := false }
def CodeBackSaid : Prop := codeBackRow.holds Try.pinned (OpenSpec.ofChange codeBackSpec)

/-- ITS FALSE NEIGHBOUR: 'it returns false'. Refute it at one input. -/
def codeBackWrong : ChangeSpec := { name := "codeBack", fn := fun _ => fun
  | [d1, d2] => { results := [.lit (.bool false)], args := [d1, d2] }
  | _ => none }
def CodeBackWrongFalsely : Prop := codeBackRow.holds Try.pinned (OpenSpec.ofChange codeBackWrong)

/-- 'firthlaw06.CodeCuts': WHATEVER THE INPUT: true; the input reads as it did. -/
def codeCutsSpec : ChangeSpec := { name := "codeCuts", fn := fun _ => fun
  | [d1, d2, d3] => { results := [.lit (.bool true)], args := [d1, d2, d3] }
  | _ => none }
def codeCutsRow : OpenClaim := { program := "ytgnedaihchmoaaa", sum := "ef8b899e6f48422075596a80507f213427797e6e84c42120baf13f5cda67ff0e", func := "firth/firthlaw06.CodeCuts", spec := "codeCuts", unfollowed := true, recurses := true, apart := false }
def CodeCutsSaid : Prop := codeCutsRow.holds Try.pinned (OpenSpec.ofChange codeCutsSpec)

/-- ITS FALSE NEIGHBOUR: 'it returns false'. Refute it at one input. -/
def codeCutsWrong : ChangeSpec := { name := "codeCuts", fn := fun _ => fun
  | [d1, d2, d3] => { results := [.lit (.bool false)], args := [d1, d2, d3] }
  | _ => none }
def CodeCutsWrongFalsely : Prop := codeCutsRow.holds Try.pinned (OpenSpec.ofChange codeCutsWrong)

/-- 'firthlaw06.CodeKeeps': WHATEVER THE INPUT: true; the input reads as it did. -/
def codeKeepsSpec : ChangeSpec := { name := "codeKeeps", fn := fun _ => fun
  | [d] => { results := [.lit (.bool true)], args := [d] }
  | _ => none }
def codeKeepsRow : OpenClaim := { program := "ytgnedaihchmoaaa", sum := "ef8b899e6f48422075596a80507f213427797e6e84c42120baf13f5cda67ff0e", func := "firth/firthlaw06.CodeKeeps", spec := "codeKeeps", unfollowed := true, recurses := true, apart := false }
def CodeKeepsSaid : Prop := codeKeepsRow.holds Try.pinned (OpenSpec.ofChange codeKeepsSpec)

/-- ITS FALSE NEIGHBOUR: 'it returns false'. Refute it at one input. -/
def codeKeepsWrong : ChangeSpec := { name := "codeKeeps", fn := fun _ => fun
  | [d] => { results := [.lit (.bool false)], args := [d] }
  | _ => none }
def CodeKeepsWrongFalsely : Prop := codeKeepsRow.holds Try.pinned (OpenSpec.ofChange codeKeepsWrong)

/-- 'firthlaw06.CodeSets': WHATEVER THE INPUT: true; the input reads as it did. -/
def codeSetsSpec : ChangeSpec := { name := "codeSets", fn := fun _ => fun
  | [d1, d2] => { results := [.lit (.bool true)], args := [d1, d2] }
  | _ => none }
def codeSetsRow : OpenClaim := { program := "ytgnedaihchmoaaa", sum := "ef8b899e6f48422075596a80507f213427797e6e84c42120baf13f5cda67ff0e", func := "firth/firthlaw06.CodeSets", spec := "codeSets", unfollowed := true, recurses := true, apart := false }
def CodeSetsSaid : Prop := codeSetsRow.holds Try.pinned (OpenSpec.ofChange codeSetsSpec)

/-- ITS FALSE NEIGHBOUR: 'it returns false'. Refute it at one input. -/
def codeSetsWrong : ChangeSpec := { name := "codeSets", fn := fun _ => fun
  | [d1, d2] => { results := [.lit (.bool false)], args := [d1, d2] }
  | _ => none }
def CodeSetsWrongFalsely : Prop := codeSetsRow.holds Try.pinned (OpenSpec.ofChange codeSetsWrong)

/-- 'firthlaw06.CodeRecs': WHATEVER THE INPUT: true; the input reads as it did. -/
def codeRecsSpec : ChangeSpec := { name := "codeRecs", fn := fun _ => fun
  | [d1, d2] => { results := [.lit (.bool true)], args := [d1, d2] }
  | _ => none }
def codeRecsRow : OpenClaim := { program := "ytgnedaihchmoaaa", sum := "ef8b899e6f48422075596a80507f213427797e6e84c42120baf13f5cda67ff0e", func := "firth/firthlaw06.CodeRecs", spec := "codeRecs", unfollowed := true, recurses := true, apart := false }
def CodeRecsSaid : Prop := codeRecsRow.holds Try.pinned (OpenSpec.ofChange codeRecsSpec)

/-- ITS FALSE NEIGHBOUR: 'it returns false'. Refute it at one input. -/
def codeRecsWrong : ChangeSpec := { name := "codeRecs", fn := fun _ => fun
  | [d1, d2] => { results := [.lit (.bool false)], args := [d1, d2] }
  | _ => none }
def CodeRecsWrongFalsely : Prop := codeRecsRow.holds Try.pinned (OpenSpec.ofChange codeRecsWrong)

/- THE SECOND FORM. 'bulk': how many values and letters a reading holds, each counted each time it is reached (what is shared counts as often as it is met; a slice's spare places count too). A statement '..UptoSaid' is the law's where the arguments, and the package variables that the reading takes, are together of bulk at most 1048576: NARROWER than '..Said'. Prove '..Said' where nothing that the law and all that it calls make is longer than what came in: it says more and counts as full. Else prove '..UptoSaid'. A law counts once. -/
mutual
def uptoBulk {H : Type} : DataW H → Nat
  | .lit (.string bytes) => bytes.length + 1
  | .lit _ => 1
  | .nil => 1
  | .ptr d => uptoBulk d + 1
  | .slice elems spare => uptoBulkAll elems + uptoBulkAll spare + 1
  | .agg parts => uptoBulkAll parts + 1
  | .iface _ d => uptoBulk d + 1
  | .map entries => uptoBulkEntries entries + 1
  | .held _ => 1
def uptoBulkAll {H : Type} : List (DataW H) → Nat
  | [] => 0
  | d :: r => uptoBulk d + uptoBulkAll r
def uptoBulkEntries {H : Type} : List (Lit × DataW H) → Nat
  | [] => 0
  | x :: r => uptoBulkEntry x + uptoBulkEntries r
def uptoBulkEntry {H : Type} : Lit × DataW H → Nat
  | (.string bytes, d) => bytes.length + uptoBulk d + 1
  | (_, d) => uptoBulk d + 1
 end
def uptoSmall : (H : Type) → List (DataW H) → Bool := fun _ ds => decide (uptoBulkAll ds ≤ 1048576)
def OpenSpec.upto (s : _root_.Go.ChangeSpec) : _root_.Go.OpenSpec := { _root_.Go.OpenSpec.ofChange s with cond := some uptoSmall }

/-- 'firthlaw06.CodeWrites', WHERE WHAT IT READS IS OF BULK AT MOST 1048576: true; the input reads as it did. -/
def codeWritesUptoRow : OpenClaim := { program := "ytgnedaihchmoaaa", sum := "ef8b899e6f48422075596a80507f213427797e6e84c42120baf13f5cda67ff0e", func := "firth/firthlaw06.CodeWrites", spec := "codeWrites", unfollowed := true, recurses := true, apart := false, narrowed := true }
def CodeWritesUptoSaid : Prop := codeWritesUptoRow.holds Try.pinned (OpenSpec.upto codeWritesSpec)

/-- 'firthlaw06.CodeReads', WHERE WHAT IT READS IS OF BULK AT MOST 1048576: true; the input reads as it did. -/
def codeReadsUptoRow : OpenClaim := { program := "ytgnedaihchmoaaa", sum := "ef8b899e6f48422075596a80507f213427797e6e84c42120baf13f5cda67ff0e", func := "firth/firthlaw06.CodeReads", spec := "codeReads", unfollowed := true, recurses := true, apart := false, narrowed := true }
def CodeReadsUptoSaid : Prop := codeReadsUptoRow.holds Try.pinned (OpenSpec.upto codeReadsSpec)

/-- 'firthlaw06.CodeBack', WHERE WHAT IT READS IS OF BULK AT MOST 1048576: true; the input reads as it did. -/
def codeBackUptoRow : OpenClaim := { program := "ytgnedaihchmoaaa", sum := "ef8b899e6f48422075596a80507f213427797e6e84c42120baf13f5cda67ff0e", func := "firth/firthlaw06.CodeBack", spec := "codeBack", unfollowed := true, recurses := true, apart := false, narrowed := true }
def CodeBackUptoSaid : Prop := codeBackUptoRow.holds Try.pinned (OpenSpec.upto codeBackSpec)

/-- 'firthlaw06.CodeCuts', WHERE WHAT IT READS IS OF BULK AT MOST 1048576: true; the input reads as it did. -/
def codeCutsUptoRow : OpenClaim := { program := "ytgnedaihchmoaaa", sum := "ef8b899e6f48422075596a80507f213427797e6e84c42120baf13f5cda67ff0e", func := "firth/firthlaw06.CodeCuts", spec := "codeCuts", unfollowed := true, recurses := true, apart := false, narrowed := true }
def CodeCutsUptoSaid : Prop := codeCutsUptoRow.holds Try.pinned (OpenSpec.upto codeCutsSpec)

/-- 'firthlaw06.CodeKeeps', WHERE WHAT IT READS IS OF BULK AT MOST 1048576: true; the input reads as it did. -/
def codeKeepsUptoRow : OpenClaim := { program := "ytgnedaihchmoaaa", sum := "ef8b899e6f48422075596a80507f213427797e6e84c42120baf13f5cda67ff0e", func := "firth/firthlaw06.CodeKeeps", spec := "codeKeeps", unfollowed := true, recurses := true, apart := false, narrowed := true }
def CodeKeepsUptoSaid : Prop := codeKeepsUptoRow.holds Try.pinned (OpenSpec.upto codeKeepsSpec)

/-- 'firthlaw06.CodeSets', WHERE WHAT IT READS IS OF BULK AT MOST 1048576: true; the input reads as it did. -/
def codeSetsUptoRow : OpenClaim := { program := "ytgnedaihchmoaaa", sum := "ef8b899e6f48422075596a80507f213427797e6e84c42120baf13f5cda67ff0e", func := "firth/firthlaw06.CodeSets", spec := "codeSets", unfollowed := true, recurses := true, apart := false, narrowed := true }
def CodeSetsUptoSaid : Prop := codeSetsUptoRow.holds Try.pinned (OpenSpec.upto codeSetsSpec)

/-- 'firthlaw06.CodeRecs', WHERE WHAT IT READS IS OF BULK AT MOST 1048576: true; the input reads as it did. -/
def codeRecsUptoRow : OpenClaim := { program := "ytgnedaihchmoaaa", sum := "ef8b899e6f48422075596a80507f213427797e6e84c42120baf13f5cda67ff0e", func := "firth/firthlaw06.CodeRecs", spec := "codeRecs", unfollowed := true, recurses := true, apart := false, narrowed := true }
def CodeRecsUptoSaid : Prop := codeRecsUptoRow.holds Try.pinned (OpenSpec.upto codeRecsSpec)

end Rows
end Go.Proofs.Ytgnedaihchmoaaa
