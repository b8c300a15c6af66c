/-
  No cell of these rows narrows 'for every input' (looked for: loops, veiled, ifaces, maps, wideKeys, modest, calm, conditions, laid).
  DERIVED. THE GIVEN ROWS OF THIS SEAT. 6 by the template 'for every input the law returns true; each argument reads behind the call as it read before'; 0 by the template 'total and deterministic' (their statements: YtlcfknpmnoghbaaTotals.lean).
  GIVEN WITH THE SEED: the statements are not yours to turn. If you find one false, say at which input.
  Laid BY PROGRAM, IN A SANDBOX (cutbox-rows.mjs): the forced cells as the released guide's own fill.sh prints them over the translation 7fb0d6086aaa0faf… (all of the seat's roots in one cut). By AI agents, Wed Nov 11 2026. No macro, syntax, notation, axiom, sorry.
-/
import Derived.Test.YtlcfknpmnoghbaaChecked
import GoSem.Claim
import GoSem.ClaimJoined
import GoSem.ClaimMapViews
import Derived.JoinedTies
import Derived.KernelRfl
namespace Go.Proofs.Ytlcfknpmnoghbaa
/- THE CELL 'sum', in the pinned program and in every row, IS THE sha256 OF THE DUMP (.gsa) THAT YtlcfknpmnoghbaaProg.lean LOADS. Nothing in Lean hashes anything: it is a label: what it is worth is what the hold of that sum in a sandbox is worth. -/
noncomputable def Try.pinned : Pinned := { name := "ytlcfknpmnoghbaa", sum := "7fb0d6086aaa0faf6e68862c77209aad3506cd92979ee70c9fcd85eccfeb7a3e", checked := Try.checked }
namespace Rows
def none {H : Type} : Left H := { results := [], args := [] }

/-- 'firthlaw05.VersLooks': WHATEVER THE INPUT: true; the input reads as it did. -/
def versLooksSpec : ChangeSpec := { name := "versLooks", fn := fun _ => fun
  | [d1, d2] => { results := [.lit (.bool true)], args := [d1, d2] }
  | _ => none }
def versLooksRow : OpenClaim := { program := "ytlcfknpmnoghbaa", sum := "7fb0d6086aaa0faf6e68862c77209aad3506cd92979ee70c9fcd85eccfeb7a3e", func := "firth/firthlaw05.VersLooks", spec := "versLooks", unfollowed := true, recurses := true, apart := false }
def VersLooksSaid : Prop := versLooksRow.holds Try.pinned (OpenSpec.ofChange versLooksSpec)

/-- ITS FALSE NEIGHBOUR: 'it returns false'. Refute it at one input. -/
def versLooksWrong : ChangeSpec := { name := "versLooks", fn := fun _ => fun
  | [d1, d2] => { results := [.lit (.bool false)], args := [d1, d2] }
  | _ => none }
def VersLooksWrongFalsely : Prop := versLooksRow.holds Try.pinned (OpenSpec.ofChange versLooksWrong)

/-- 'firthlaw05.VersJoins': WHATEVER THE INPUT: true; the input reads as it did. -/
def versJoinsSpec : ChangeSpec := { name := "versJoins", fn := fun _ => fun
  | [d1, d2] => { results := [.lit (.bool true)], args := [d1, d2] }
  | _ => none }
def versJoinsRow : OpenClaim := { program := "ytlcfknpmnoghbaa", sum := "7fb0d6086aaa0faf6e68862c77209aad3506cd92979ee70c9fcd85eccfeb7a3e", func := "firth/firthlaw05.VersJoins", spec := "versJoins", unfollowed := true, recurses := true, apart := false }
def VersJoinsSaid : Prop := versJoinsRow.holds Try.pinned (OpenSpec.ofChange versJoinsSpec)

/-- ITS FALSE NEIGHBOUR: 'it returns false'. Refute it at one input. -/
def versJoinsWrong : ChangeSpec := { name := "versJoins", fn := fun _ => fun
  | [d1, d2] => { results := [.lit (.bool false)], args := [d1, d2] }
  | _ => none }
def VersJoinsWrongFalsely : Prop := versJoinsRow.holds Try.pinned (OpenSpec.ofChange versJoinsWrong)

/-- 'firthlaw05.VersMerges': WHATEVER THE INPUT: true; the input reads as it did. -/
def versMergesSpec : ChangeSpec := { name := "versMerges", fn := fun _ => fun
  | [d1, d2, d3] => { results := [.lit (.bool true)], args := [d1, d2, d3] }
  | _ => none }
def versMergesRow : OpenClaim := { program := "ytlcfknpmnoghbaa", sum := "7fb0d6086aaa0faf6e68862c77209aad3506cd92979ee70c9fcd85eccfeb7a3e", func := "firth/firthlaw05.VersMerges", spec := "versMerges", unfollowed := true, recurses := true, apart := false }
def VersMergesSaid : Prop := versMergesRow.holds Try.pinned (OpenSpec.ofChange versMergesSpec)

/-- ITS FALSE NEIGHBOUR: 'it returns false'. Refute it at one input. -/
def versMergesWrong : ChangeSpec := { name := "versMerges", fn := fun _ => fun
  | [d1, d2, d3] => { results := [.lit (.bool false)], args := [d1, d2, d3] }
  | _ => none }
def VersMergesWrongFalsely : Prop := versMergesRow.holds Try.pinned (OpenSpec.ofChange versMergesWrong)

/-- 'firthlaw05.VersTwins': WHATEVER THE INPUT: true; the input reads as it did. -/
def versTwinsSpec : ChangeSpec := { name := "versTwins", fn := fun _ => fun
  | [d1, d2, d3] => { results := [.lit (.bool true)], args := [d1, d2, d3] }
  | _ => none }
def versTwinsRow : OpenClaim := { program := "ytlcfknpmnoghbaa", sum := "7fb0d6086aaa0faf6e68862c77209aad3506cd92979ee70c9fcd85eccfeb7a3e", func := "firth/firthlaw05.VersTwins", spec := "versTwins", unfollowed := true, recurses := true, apart := false }
def VersTwinsSaid : Prop := versTwinsRow.holds Try.pinned (OpenSpec.ofChange versTwinsSpec)

/-- ITS FALSE NEIGHBOUR: 'it returns false'. Refute it at one input. -/
def versTwinsWrong : ChangeSpec := { name := "versTwins", fn := fun _ => fun
  | [d1, d2, d3] => { results := [.lit (.bool false)], args := [d1, d2, d3] }
  | _ => none }
def VersTwinsWrongFalsely : Prop := versTwinsRow.holds Try.pinned (OpenSpec.ofChange versTwinsWrong)

/-- 'firthlaw05.VersKeeps': WHATEVER THE INPUT: true; the input reads as it did. -/
def versKeepsSpec : ChangeSpec := { name := "versKeeps", fn := fun _ => fun
  | [d1, d2] => { results := [.lit (.bool true)], args := [d1, d2] }
  | _ => none }
def versKeepsRow : OpenClaim := { program := "ytlcfknpmnoghbaa", sum := "7fb0d6086aaa0faf6e68862c77209aad3506cd92979ee70c9fcd85eccfeb7a3e", func := "firth/firthlaw05.VersKeeps", spec := "versKeeps", unfollowed := true, recurses := true, apart := false }
def VersKeepsSaid : Prop := versKeepsRow.holds Try.pinned (OpenSpec.ofChange versKeepsSpec)

/-- ITS FALSE NEIGHBOUR: 'it returns false'. Refute it at one input. -/
def versKeepsWrong : ChangeSpec := { name := "versKeeps", fn := fun _ => fun
  | [d1, d2] => { results := [.lit (.bool false)], args := [d1, d2] }
  | _ => none }
def VersKeepsWrongFalsely : Prop := versKeepsRow.holds Try.pinned (OpenSpec.ofChange versKeepsWrong)

/-- 'firthlaw05.VersReplaces': WHATEVER THE INPUT: true; the input reads as it did. -/
def versReplacesSpec : ChangeSpec := { name := "versReplaces", fn := fun _ => fun
  | [d1, d2, d3] => { results := [.lit (.bool true)], args := [d1, d2, d3] }
  | _ => none }
def versReplacesRow : OpenClaim := { program := "ytlcfknpmnoghbaa", sum := "7fb0d6086aaa0faf6e68862c77209aad3506cd92979ee70c9fcd85eccfeb7a3e", func := "firth/firthlaw05.VersReplaces", spec := "versReplaces", unfollowed := true, recurses := true, apart := false }
def VersReplacesSaid : Prop := versReplacesRow.holds Try.pinned (OpenSpec.ofChange versReplacesSpec)

/-- ITS FALSE NEIGHBOUR: 'it returns false'. Refute it at one input. -/
def versReplacesWrong : ChangeSpec := { name := "versReplaces", fn := fun _ => fun
  | [d1, d2, d3] => { results := [.lit (.bool false)], args := [d1, d2, d3] }
  | _ => none }
def VersReplacesWrongFalsely : Prop := versReplacesRow.holds Try.pinned (OpenSpec.ofChange versReplacesWrong)

/- THE SECOND FORM. 'bulk': how many values and letters a reading holds, each counted each time it is reached (what is shared counts as often as it is met; a slice's spare places count too). A statement '..UptoSaid' is the law's where the arguments, and the package variables that the reading takes, are together of bulk at most 1048576: NARROWER than '..Said'. Prove '..Said' where nothing that the law and all that it calls make is longer than what came in: it says more and counts as full. Else prove '..UptoSaid'. A law counts once. -/
mutual
def uptoBulk {H : Type} : DataW H → Nat
  | .lit (.string bytes) => bytes.length + 1
  | .lit _ => 1
  | .nil => 1
  | .ptr d => uptoBulk d + 1
  | .slice elems spare => uptoBulkAll elems + uptoBulkAll spare + 1
  | .agg parts => uptoBulkAll parts + 1
  | .iface _ d => uptoBulk d + 1
  | .map entries => uptoBulkEntries entries + 1
  | .held _ => 1
def uptoBulkAll {H : Type} : List (DataW H) → Nat
  | [] => 0
  | d :: r => uptoBulk d + uptoBulkAll r
def uptoBulkEntries {H : Type} : List (Lit × DataW H) → Nat
  | [] => 0
  | x :: r => uptoBulkEntry x + uptoBulkEntries r
def uptoBulkEntry {H : Type} : Lit × DataW H → Nat
  | (.string bytes, d) => bytes.length + uptoBulk d + 1
  | (_, d) => uptoBulk d + 1
 end
def uptoSmall : (H : Type) → List (DataW H) → Bool := fun _ ds => decide (uptoBulkAll ds ≤ 1048576)
def OpenSpec.upto (s : _root_.Go.ChangeSpec) : _root_.Go.OpenSpec := { _root_.Go.OpenSpec.ofChange s with cond := some uptoSmall }

/-- 'firthlaw05.VersLooks', WHERE WHAT IT READS IS OF BULK AT MOST 1048576: true; the input reads as it did. -/
def versLooksUptoRow : OpenClaim := { program := "ytlcfknpmnoghbaa", sum := "7fb0d6086aaa0faf6e68862c77209aad3506cd92979ee70c9fcd85eccfeb7a3e", func := "firth/firthlaw05.VersLooks", spec := "versLooks", unfollowed := true, recurses := true, apart := false, narrowed := true }
def VersLooksUptoSaid : Prop := versLooksUptoRow.holds Try.pinned (OpenSpec.upto versLooksSpec)

/-- 'firthlaw05.VersJoins', WHERE WHAT IT READS IS OF BULK AT MOST 1048576: true; the input reads as it did. -/
def versJoinsUptoRow : OpenClaim := { program := "ytlcfknpmnoghbaa", sum := "7fb0d6086aaa0faf6e68862c77209aad3506cd92979ee70c9fcd85eccfeb7a3e", func := "firth/firthlaw05.VersJoins", spec := "versJoins", unfollowed := true, recurses := true, apart := false, narrowed := true }
def VersJoinsUptoSaid : Prop := versJoinsUptoRow.holds Try.pinned (OpenSpec.upto versJoinsSpec)

/-- 'firthlaw05.VersMerges', WHERE WHAT IT READS IS OF BULK AT MOST 1048576: true; the input reads as it did. -/
def versMergesUptoRow : OpenClaim := { program := "ytlcfknpmnoghbaa", sum := "7fb0d6086aaa0faf6e68862c77209aad3506cd92979ee70c9fcd85eccfeb7a3e", func := "firth/firthlaw05.VersMerges", spec := "versMerges", unfollowed := true, recurses := true, apart := false, narrowed := true }
def VersMergesUptoSaid : Prop := versMergesUptoRow.holds Try.pinned (OpenSpec.upto versMergesSpec)

/-- 'firthlaw05.VersTwins', WHERE WHAT IT READS IS OF BULK AT MOST 1048576: true; the input reads as it did. -/
def versTwinsUptoRow : OpenClaim := { program := "ytlcfknpmnoghbaa", sum := "7fb0d6086aaa0faf6e68862c77209aad3506cd92979ee70c9fcd85eccfeb7a3e", func := "firth/firthlaw05.VersTwins", spec := "versTwins", unfollowed := true, recurses := true, apart := false, narrowed := true }
def VersTwinsUptoSaid : Prop := versTwinsUptoRow.holds Try.pinned (OpenSpec.upto versTwinsSpec)

/-- 'firthlaw05.VersKeeps', WHERE WHAT IT READS IS OF BULK AT MOST 1048576: true; the input reads as it did. -/
def versKeepsUptoRow : OpenClaim := { program := "ytlcfknpmnoghbaa", sum := "7fb0d6086aaa0faf6e68862c77209aad3506cd92979ee70c9fcd85eccfeb7a3e", func := "firth/firthlaw05.VersKeeps", spec := "versKeeps", unfollowed := true, recurses := true, apart := false, narrowed := true }
def VersKeepsUptoSaid : Prop := versKeepsUptoRow.holds Try.pinned (OpenSpec.upto versKeepsSpec)

/-- 'firthlaw05.VersReplaces', WHERE WHAT IT READS IS OF BULK AT MOST 1048576: true; the input reads as it did. -/
def versReplacesUptoRow : OpenClaim := { program := "ytlcfknpmnoghbaa", sum := "7fb0d6086aaa0faf6e68862c77209aad3506cd92979ee70c9fcd85eccfeb7a3e", func := "firth/firthlaw05.VersReplaces", spec := "versReplaces", unfollowed := true, recurses := true, apart := false, narrowed := true }
def VersReplacesUptoSaid : Prop := versReplacesUptoRow.holds Try.pinned (OpenSpec.upto versReplacesSpec)

end Rows
end Go.Proofs.Ytlcfknpmnoghbaa
