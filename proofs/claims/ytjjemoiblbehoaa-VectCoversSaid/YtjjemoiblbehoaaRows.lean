/-
  No cell of these rows narrows 'for every input' (looked for: loops, veiled, ifaces, maps, wideKeys, modest, calm, conditions, laid).
  DERIVED. THE GIVEN ROWS OF THIS SEAT. 6 by the template 'for every input the law returns true; each argument reads behind the call as it read before'; 0 by the template 'total and deterministic' (their statements: YtjjemoiblbehoaaTotals.lean).
  GIVEN WITH THE SEED: the statements are not yours to turn. If you find one false, say at which input.
  Laid BY PROGRAM, IN A SANDBOX (cutbox-rows.mjs): the forced cells as the released guide's own fill.sh prints them over the translation 8c371977dba8be5a… (all of the seat's roots in one cut). By AI agents, Wed Nov 11 2026. No macro, syntax, notation, axiom, sorry.
-/
import Derived.Test.YtjjemoiblbehoaaChecked
import GoSem.Claim
import GoSem.ClaimJoined
import GoSem.ClaimMapViews
import Derived.JoinedTies
import Derived.KernelRfl
namespace Go.Proofs.Ytjjemoiblbehoaa
/- THE CELL 'sum', in the pinned program and in every row, IS THE sha256 OF THE DUMP (.gsa) THAT YtjjemoiblbehoaaProg.lean LOADS. Nothing in Lean hashes anything: it is a label: what it is worth is what the hold of that sum in a sandbox is worth. -/
noncomputable def Try.pinned : Pinned := { name := "ytjjemoiblbehoaa", sum := "8c371977dba8be5ad989d72b3edc85b80baad11b8f77698e6ca2bbd3c3fe6bca", checked := Try.checked }
namespace Rows
def none {H : Type} : Left H := { results := [], args := [] }

/-- 'firthlaw04.VectKeeps': WHATEVER THE INPUT: true; the input reads as it did. -/
def vectKeepsSpec : ChangeSpec := { name := "vectKeeps", fn := fun _ => fun
  | [d1, d2] => { results := [.lit (.bool true)], args := [d1, d2] }
  | _ => none }
def vectKeepsRow : OpenClaim := { program := "ytjjemoiblbehoaa", sum := "8c371977dba8be5ad989d72b3edc85b80baad11b8f77698e6ca2bbd3c3fe6bca", func := "firth/firthlaw04.VectKeeps", spec := "vectKeeps", apart := false }
def VectKeepsSaid : Prop := vectKeepsRow.holds Try.pinned (OpenSpec.ofChange vectKeepsSpec)

/-- ITS FALSE NEIGHBOUR: 'it returns false'. Refute it at one input. -/
def vectKeepsWrong : ChangeSpec := { name := "vectKeeps", fn := fun _ => fun
  | [d1, d2] => { results := [.lit (.bool false)], args := [d1, d2] }
  | _ => none }
def VectKeepsWrongFalsely : Prop := vectKeepsRow.holds Try.pinned (OpenSpec.ofChange vectKeepsWrong)

/-- 'firthlaw04.VectJoins': WHATEVER THE INPUT: true; the input reads as it did. -/
def vectJoinsSpec : ChangeSpec := { name := "vectJoins", fn := fun _ => fun
  | [d1, d2] => { results := [.lit (.bool true)], args := [d1, d2] }
  | _ => none }
def vectJoinsRow : OpenClaim := { program := "ytjjemoiblbehoaa", sum := "8c371977dba8be5ad989d72b3edc85b80baad11b8f77698e6ca2bbd3c3fe6bca", func := "firth/firthlaw04.VectJoins", spec := "vectJoins", apart := false }
def VectJoinsSaid : Prop := vectJoinsRow.holds Try.pinned (OpenSpec.ofChange vectJoinsSpec)

/-- ITS FALSE NEIGHBOUR: 'it returns false'. Refute it at one input. -/
def vectJoinsWrong : ChangeSpec := { name := "vectJoins", fn := fun _ => fun
  | [d1, d2] => { results := [.lit (.bool false)], args := [d1, d2] }
  | _ => none }
def VectJoinsWrongFalsely : Prop := vectJoinsRow.holds Try.pinned (OpenSpec.ofChange vectJoinsWrong)

/-- 'firthlaw04.VectLooks': WHATEVER THE INPUT: true; the input reads as it did. -/
def vectLooksSpec : ChangeSpec := { name := "vectLooks", fn := fun _ => fun
  | [d1, d2, d3] => { results := [.lit (.bool true)], args := [d1, d2, d3] }
  | _ => none }
def vectLooksRow : OpenClaim := { program := "ytjjemoiblbehoaa", sum := "8c371977dba8be5ad989d72b3edc85b80baad11b8f77698e6ca2bbd3c3fe6bca", func := "firth/firthlaw04.VectLooks", spec := "vectLooks", apart := false }
def VectLooksSaid : Prop := vectLooksRow.holds Try.pinned (OpenSpec.ofChange vectLooksSpec)

/-- ITS FALSE NEIGHBOUR: 'it returns false'. Refute it at one input. -/
def vectLooksWrong : ChangeSpec := { name := "vectLooks", fn := fun _ => fun
  | [d1, d2, d3] => { results := [.lit (.bool false)], args := [d1, d2, d3] }
  | _ => none }
def VectLooksWrongFalsely : Prop := vectLooksRow.holds Try.pinned (OpenSpec.ofChange vectLooksWrong)

/-- 'firthlaw04.VectSteps': WHATEVER THE INPUT: true; the input reads as it did. -/
def vectStepsSpec : ChangeSpec := { name := "vectSteps", fn := fun _ => fun
  | [d1, d2] => { results := [.lit (.bool true)], args := [d1, d2] }
  | _ => none }
def vectStepsRow : OpenClaim := { program := "ytjjemoiblbehoaa", sum := "8c371977dba8be5ad989d72b3edc85b80baad11b8f77698e6ca2bbd3c3fe6bca", func := "firth/firthlaw04.VectSteps", spec := "vectSteps", apart := false }
def VectStepsSaid : Prop := vectStepsRow.holds Try.pinned (OpenSpec.ofChange vectStepsSpec)

/-- ITS FALSE NEIGHBOUR: 'it returns false'. Refute it at one input. -/
def vectStepsWrong : ChangeSpec := { name := "vectSteps", fn := fun _ => fun
  | [d1, d2] => { results := [.lit (.bool false)], args := [d1, d2] }
  | _ => none }
def VectStepsWrongFalsely : Prop := vectStepsRow.holds Try.pinned (OpenSpec.ofChange vectStepsWrong)

/-- 'firthlaw04.VectGoes': WHATEVER THE INPUT: true; the input reads as it did. -/
def vectGoesSpec : ChangeSpec := { name := "vectGoes", fn := fun _ => fun
  | [d1, d2] => { results := [.lit (.bool true)], args := [d1, d2] }
  | _ => none }
def vectGoesRow : OpenClaim := { program := "ytjjemoiblbehoaa", sum := "8c371977dba8be5ad989d72b3edc85b80baad11b8f77698e6ca2bbd3c3fe6bca", func := "firth/firthlaw04.VectGoes", spec := "vectGoes", apart := false }
def VectGoesSaid : Prop := vectGoesRow.holds Try.pinned (OpenSpec.ofChange vectGoesSpec)

/-- ITS FALSE NEIGHBOUR: 'it returns false'. Refute it at one input. -/
def vectGoesWrong : ChangeSpec := { name := "vectGoes", fn := fun _ => fun
  | [d1, d2] => { results := [.lit (.bool false)], args := [d1, d2] }
  | _ => none }
def VectGoesWrongFalsely : Prop := vectGoesRow.holds Try.pinned (OpenSpec.ofChange vectGoesWrong)

/-- 'firthlaw04.VectCovers': WHATEVER THE INPUT: true; the input reads as it did. -/
def vectCoversSpec : ChangeSpec := { name := "vectCovers", fn := fun _ => fun
  | [d1, d2, d3] => { results := [.lit (.bool true)], args := [d1, d2, d3] }
  | _ => none }
def vectCoversRow : OpenClaim := { program := "ytjjemoiblbehoaa", sum := "8c371977dba8be5ad989d72b3edc85b80baad11b8f77698e6ca2bbd3c3fe6bca", func := "firth/firthlaw04.VectCovers", spec := "vectCovers", apart := false }
def VectCoversSaid : Prop := vectCoversRow.holds Try.pinned (OpenSpec.ofChange vectCoversSpec)

/-- ITS FALSE NEIGHBOUR: 'it returns false'. Refute it at one input. -/
def vectCoversWrong : ChangeSpec := { name := "vectCovers", fn := fun _ => fun
  | [d1, d2, d3] => { results := [.lit (.bool false)], args := [d1, d2, d3] }
  | _ => none }
def VectCoversWrongFalsely : Prop := vectCoversRow.holds Try.pinned (OpenSpec.ofChange vectCoversWrong)

/- THE SECOND FORM. 'bulk': how many values and letters a reading holds, each counted each time it is reached (what is shared counts as often as it is met; a slice's spare places count too). A statement '..UptoSaid' is the law's where the arguments, and the package variables that the reading takes, are together of bulk at most 1048576: NARROWER than '..Said'. Prove '..Said' where nothing that the law and all that it calls make is longer than what came in: it says more and counts as full. Else prove '..UptoSaid'. A law counts once. -/
mutual
def uptoBulk {H : Type} : DataW H → Nat
  | .lit (.string bytes) => bytes.length + 1
  | .lit _ => 1
  | .nil => 1
  | .ptr d => uptoBulk d + 1
  | .slice elems spare => uptoBulkAll elems + uptoBulkAll spare + 1
  | .agg parts => uptoBulkAll parts + 1
  | .iface _ d => uptoBulk d + 1
  | .map entries => uptoBulkEntries entries + 1
  | .held _ => 1
def uptoBulkAll {H : Type} : List (DataW H) → Nat
  | [] => 0
  | d :: r => uptoBulk d + uptoBulkAll r
def uptoBulkEntries {H : Type} : List (Lit × DataW H) → Nat
  | [] => 0
  | x :: r => uptoBulkEntry x + uptoBulkEntries r
def uptoBulkEntry {H : Type} : Lit × DataW H → Nat
  | (.string bytes, d) => bytes.length + uptoBulk d + 1
  | (_, d) => uptoBulk d + 1
 end
def uptoSmall : (H : Type) → List (DataW H) → Bool := fun _ ds => decide (uptoBulkAll ds ≤ 1048576)
def OpenSpec.upto (s : _root_.Go.ChangeSpec) : _root_.Go.OpenSpec := { _root_.Go.OpenSpec.ofChange s with cond := some uptoSmall }

/-- 'firthlaw04.VectKeeps', WHERE WHAT IT READS IS OF BULK AT MOST 1048576: true; the input reads as it did. -/
def vectKeepsUptoRow : OpenClaim := { program := "ytjjemoiblbehoaa", sum := "8c371977dba8be5ad989d72b3edc85b80baad11b8f77698e6ca2bbd3c3fe6bca", func := "firth/firthlaw04.VectKeeps", spec := "vectKeeps", apart := false, narrowed := true }
def VectKeepsUptoSaid : Prop := vectKeepsUptoRow.holds Try.pinned (OpenSpec.upto vectKeepsSpec)

/-- 'firthlaw04.VectJoins', WHERE WHAT IT READS IS OF BULK AT MOST 1048576: true; the input reads as it did. -/
def vectJoinsUptoRow : OpenClaim := { program := "ytjjemoiblbehoaa", sum := "8c371977dba8be5ad989d72b3edc85b80baad11b8f77698e6ca2bbd3c3fe6bca", func := "firth/firthlaw04.VectJoins", spec := "vectJoins", apart := false, narrowed := true }
def VectJoinsUptoSaid : Prop := vectJoinsUptoRow.holds Try.pinned (OpenSpec.upto vectJoinsSpec)

/-- 'firthlaw04.VectLooks', WHERE WHAT IT READS IS OF BULK AT MOST 1048576: true; the input reads as it did. -/
def vectLooksUptoRow : OpenClaim := { program := "ytjjemoiblbehoaa", sum := "8c371977dba8be5ad989d72b3edc85b80baad11b8f77698e6ca2bbd3c3fe6bca", func := "firth/firthlaw04.VectLooks", spec := "vectLooks", apart := false, narrowed := true }
def VectLooksUptoSaid : Prop := vectLooksUptoRow.holds Try.pinned (OpenSpec.upto vectLooksSpec)

/-- 'firthlaw04.VectSteps', WHERE WHAT IT READS IS OF BULK AT MOST 1048576: true; the input reads as it did. -/
def vectStepsUptoRow : OpenClaim := { program := "ytjjemoiblbehoaa", sum := "8c371977dba8be5ad989d72b3edc85b80baad11b8f77698e6ca2bbd3c3fe6bca", func := "firth/firthlaw04.VectSteps", spec := "vectSteps", apart := false, narrowed := true }
def VectStepsUptoSaid : Prop := vectStepsUptoRow.holds Try.pinned (OpenSpec.upto vectStepsSpec)

/-- 'firthlaw04.VectGoes', WHERE WHAT IT READS IS OF BULK AT MOST 1048576: true; the input reads as it did. -/
def vectGoesUptoRow : OpenClaim := { program := "ytjjemoiblbehoaa", sum := "8c371977dba8be5ad989d72b3edc85b80baad11b8f77698e6ca2bbd3c3fe6bca", func := "firth/firthlaw04.VectGoes", spec := "vectGoes", apart := false, narrowed := true }
def VectGoesUptoSaid : Prop := vectGoesUptoRow.holds Try.pinned (OpenSpec.upto vectGoesSpec)

/-- 'firthlaw04.VectCovers', WHERE WHAT IT READS IS OF BULK AT MOST 1048576: true; the input reads as it did. -/
def vectCoversUptoRow : OpenClaim := { program := "ytjjemoiblbehoaa", sum := "8c371977dba8be5ad989d72b3edc85b80baad11b8f77698e6ca2bbd3c3fe6bca", func := "firth/firthlaw04.VectCovers", spec := "vectCovers", apart := false, narrowed := true }
def VectCoversUptoSaid : Prop := vectCoversUptoRow.holds Try.pinned (OpenSpec.upto vectCoversSpec)

end Rows
end Go.Proofs.Ytjjemoiblbehoaa
