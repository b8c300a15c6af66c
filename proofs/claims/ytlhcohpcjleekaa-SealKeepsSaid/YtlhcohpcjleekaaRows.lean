/-
  No cell of these rows narrows 'for every input' (looked for: loops, veiled, ifaces, maps, wideKeys, modest, calm, conditions, laid).
  DERIVED. THE GIVEN ROWS OF THIS SEAT. 6 by the template 'for every input the law returns true; each argument reads behind the call as it read before'; 0 by the template 'total and deterministic' (their statements: YtlhcohpcjleekaaTotals.lean).
  GIVEN WITH THE SEED: the statements are not yours to turn. If you find one false, say at which input.
  Laid BY PROGRAM, IN A SANDBOX (cutbox-rows.mjs): the forced cells as the released guide's own fill.sh prints them over the translation 8276bd256f756836… (all of the seat's roots in one cut). By AI agents, Wed Nov 11 2026. No macro, syntax, notation, axiom, sorry.
-/
import Derived.Test.YtlhcohpcjleekaaChecked
import GoSem.Claim
import GoSem.ClaimJoined
import GoSem.ClaimMapViews
import Derived.JoinedTies
import Derived.KernelRfl
namespace Go.Proofs.Ytlhcohpcjleekaa
/- THE CELL 'sum', in the pinned program and in every row, IS THE sha256 OF THE DUMP (.gsa) THAT YtlhcohpcjleekaaProg.lean LOADS. Nothing in Lean hashes anything: it is a label: what it is worth is what the hold of that sum in a sandbox is worth. -/
noncomputable def Try.pinned : Pinned := { name := "ytlhcohpcjleekaa", sum := "8276bd256f756836dc94eb06a722d5a8febb6319abbfd955cf9f0040e6b895ab", checked := Try.checked }
namespace Rows
def none {H : Type} : Left H := { results := [], args := [] }

/-- 'firthlaw13.SealSeals': WHATEVER THE INPUT: true; the input reads as it did. -/
def sealSealsSpec : ChangeSpec := { name := "sealSeals", fn := fun _ => fun
  | [d1, d2, d3] => { results := [.lit (.bool true)], args := [d1, d2, d3] }
  | _ => none }
def sealSealsRow : OpenClaim := { program := "ytlhcohpcjleekaa", sum := "8276bd256f756836dc94eb06a722d5a8febb6319abbfd955cf9f0040e6b895ab", func := "firth/firthlaw13.SealSeals", spec := "sealSeals", unfollowed := true, recurses := true, apart := false }
def SealSealsSaid : Prop := sealSealsRow.holds Try.pinned (OpenSpec.ofChange sealSealsSpec)

/-- ITS FALSE NEIGHBOUR: 'it returns false'. Refute it at one input. -/
def sealSealsWrong : ChangeSpec := { name := "sealSeals", fn := fun _ => fun
  | [d1, d2, d3] => { results := [.lit (.bool false)], args := [d1, d2, d3] }
  | _ => none }
def SealSealsWrongFalsely : Prop := sealSealsRow.holds Try.pinned (OpenSpec.ofChange sealSealsWrong)

/-- 'firthlaw13.SealOpens': WHATEVER THE INPUT: true; the input reads as it did. -/
def sealOpensSpec : ChangeSpec := { name := "sealOpens", fn := fun _ => fun
  | [d1, d2] => { results := [.lit (.bool true)], args := [d1, d2] }
  | _ => none }
def sealOpensRow : OpenClaim := { program := "ytlhcohpcjleekaa", sum := "8276bd256f756836dc94eb06a722d5a8febb6319abbfd955cf9f0040e6b895ab", func := "firth/firthlaw13.SealOpens", spec := "sealOpens", unfollowed := true, recurses := true, apart := false }
def SealOpensSaid : Prop := sealOpensRow.holds Try.pinned (OpenSpec.ofChange sealOpensSpec)

/-- ITS FALSE NEIGHBOUR: 'it returns false'. Refute it at one input. -/
def sealOpensWrong : ChangeSpec := { name := "sealOpens", fn := fun _ => fun
  | [d1, d2] => { results := [.lit (.bool false)], args := [d1, d2] }
  | _ => none }
def SealOpensWrongFalsely : Prop := sealOpensRow.holds Try.pinned (OpenSpec.ofChange sealOpensWrong)

/-- 'firthlaw13.SealBack': WHATEVER THE INPUT: true; the input reads as it did. -/
def sealBackSpec : ChangeSpec := { name := "sealBack", fn := fun _ => fun
  | [d1, d2, d3] => { results := [.lit (.bool true)], args := [d1, d2, d3] }
  | _ => none }
def sealBackRow : OpenClaim := { program := "ytlhcohpcjleekaa", sum := "8276bd256f756836dc94eb06a722d5a8febb6319abbfd955cf9f0040e6b895ab", func := "firth/firthlaw13.SealBack", spec := "sealBack", unfollowed := true, recurses := true, apart := false }
def SealBackSaid : Prop := sealBackRow.holds Try.pinned (OpenSpec.ofChange sealBackSpec)

/-- ITS FALSE NEIGHBOUR: 'it returns false'. Refute it at one input. -/
def sealBackWrong : ChangeSpec := { name := "sealBack", fn := fun _ => fun
  | [d1, d2, d3] => { results := [.lit (.bool false)], args := [d1, d2, d3] }
  | _ => none }
def SealBackWrongFalsely : Prop := sealBackRow.holds Try.pinned (OpenSpec.ofChange sealBackWrong)

/-- 'firthlaw13.SealOnly': WHATEVER THE INPUT: true; the input reads as it did. -/
def sealOnlySpec : ChangeSpec := { name := "sealOnly", fn := fun _ => fun
  | [d1, d2] => { results := [.lit (.bool true)], args := [d1, d2] }
  | _ => none }
def sealOnlyRow : OpenClaim := { program := "ytlhcohpcjleekaa", sum := "8276bd256f756836dc94eb06a722d5a8febb6319abbfd955cf9f0040e6b895ab", func := "firth/firthlaw13.SealOnly", spec := "sealOnly", unfollowed := true, recurses := true, apart := false }
def SealOnlySaid : Prop := sealOnlyRow.holds Try.pinned (OpenSpec.ofChange sealOnlySpec)

/-- ITS FALSE NEIGHBOUR: 'it returns false'. Refute it at one input. -/
def sealOnlyWrong : ChangeSpec := { name := "sealOnly", fn := fun _ => fun
  | [d1, d2] => { results := [.lit (.bool false)], args := [d1, d2] }
  | _ => none }
def SealOnlyWrongFalsely : Prop := sealOnlyRow.holds Try.pinned (OpenSpec.ofChange sealOnlyWrong)

/-- 'firthlaw13.SealTurned': WHATEVER THE INPUT: true; the input reads as it did. -/
def sealTurnedSpec : ChangeSpec := { name := "sealTurned", fn := fun _ => fun
  | [d1, d2, d3] => { results := [.lit (.bool true)], args := [d1, d2, d3] }
  | _ => none }
def sealTurnedRow : OpenClaim := { program := "ytlhcohpcjleekaa", sum := "8276bd256f756836dc94eb06a722d5a8febb6319abbfd955cf9f0040e6b895ab", func := "firth/firthlaw13.SealTurned", spec := "sealTurned", unfollowed := true, recurses := true, apart := false }
def SealTurnedSaid : Prop := sealTurnedRow.holds Try.pinned (OpenSpec.ofChange sealTurnedSpec)

/-- ITS FALSE NEIGHBOUR: 'it returns false'. Refute it at one input. -/
def sealTurnedWrong : ChangeSpec := { name := "sealTurned", fn := fun _ => fun
  | [d1, d2, d3] => { results := [.lit (.bool false)], args := [d1, d2, d3] }
  | _ => none }
def SealTurnedWrongFalsely : Prop := sealTurnedRow.holds Try.pinned (OpenSpec.ofChange sealTurnedWrong)

/-- 'firthlaw13.SealKeeps': WHATEVER THE INPUT: true; the input reads as it did. -/
def sealKeepsSpec : ChangeSpec := { name := "sealKeeps", fn := fun _ => fun
  | [d1, d2] => { results := [.lit (.bool true)], args := [d1, d2] }
  | _ => none }
def sealKeepsRow : OpenClaim := { program := "ytlhcohpcjleekaa", sum := "8276bd256f756836dc94eb06a722d5a8febb6319abbfd955cf9f0040e6b895ab", func := "firth/firthlaw13.SealKeeps", spec := "sealKeeps", unfollowed := true, recurses := true, apart := false }
def SealKeepsSaid : Prop := sealKeepsRow.holds Try.pinned (OpenSpec.ofChange sealKeepsSpec)

/-- ITS FALSE NEIGHBOUR: 'it returns false'. Refute it at one input. -/
def sealKeepsWrong : ChangeSpec := { name := "sealKeeps", fn := fun _ => fun
  | [d1, d2] => { results := [.lit (.bool false)], args := [d1, d2] }
  | _ => none }
def SealKeepsWrongFalsely : Prop := sealKeepsRow.holds Try.pinned (OpenSpec.ofChange sealKeepsWrong)

/- THE SECOND FORM. 'bulk': how many values and letters a reading holds, each counted each time it is reached (what is shared counts as often as it is met; a slice's spare places count too). A statement '..UptoSaid' is the law's where the arguments, and the package variables that the reading takes, are together of bulk at most 1048576: NARROWER than '..Said'. Prove '..Said' where nothing that the law and all that it calls make is longer than what came in: it says more and counts as full. Else prove '..UptoSaid'. A law counts once. -/
mutual
def uptoBulk {H : Type} : DataW H → Nat
  | .lit (.string bytes) => bytes.length + 1
  | .lit _ => 1
  | .nil => 1
  | .ptr d => uptoBulk d + 1
  | .slice elems spare => uptoBulkAll elems + uptoBulkAll spare + 1
  | .agg parts => uptoBulkAll parts + 1
  | .iface _ d => uptoBulk d + 1
  | .map entries => uptoBulkEntries entries + 1
  | .held _ => 1
def uptoBulkAll {H : Type} : List (DataW H) → Nat
  | [] => 0
  | d :: r => uptoBulk d + uptoBulkAll r
def uptoBulkEntries {H : Type} : List (Lit × DataW H) → Nat
  | [] => 0
  | x :: r => uptoBulkEntry x + uptoBulkEntries r
def uptoBulkEntry {H : Type} : Lit × DataW H → Nat
  | (.string bytes, d) => bytes.length + uptoBulk d + 1
  | (_, d) => uptoBulk d + 1
 end
def uptoSmall : (H : Type) → List (DataW H) → Bool := fun _ ds => decide (uptoBulkAll ds ≤ 1048576)
def OpenSpec.upto (s : _root_.Go.ChangeSpec) : _root_.Go.OpenSpec := { _root_.Go.OpenSpec.ofChange s with cond := some uptoSmall }

/-- 'firthlaw13.SealSeals', WHERE WHAT IT READS IS OF BULK AT MOST 1048576: true; the input reads as it did. -/
def sealSealsUptoRow : OpenClaim := { program := "ytlhcohpcjleekaa", sum := "8276bd256f756836dc94eb06a722d5a8febb6319abbfd955cf9f0040e6b895ab", func := "firth/firthlaw13.SealSeals", spec := "sealSeals", unfollowed := true, recurses := true, apart := false, narrowed := true }
def SealSealsUptoSaid : Prop := sealSealsUptoRow.holds Try.pinned (OpenSpec.upto sealSealsSpec)

/-- 'firthlaw13.SealOpens', WHERE WHAT IT READS IS OF BULK AT MOST 1048576: true; the input reads as it did. -/
def sealOpensUptoRow : OpenClaim := { program := "ytlhcohpcjleekaa", sum := "8276bd256f756836dc94eb06a722d5a8febb6319abbfd955cf9f0040e6b895ab", func := "firth/firthlaw13.SealOpens", spec := "sealOpens", unfollowed := true, recurses := true, apart := false, narrowed := true }
def SealOpensUptoSaid : Prop := sealOpensUptoRow.holds Try.pinned (OpenSpec.upto sealOpensSpec)

/-- 'firthlaw13.SealBack', WHERE WHAT IT READS IS OF BULK AT MOST 1048576: true; the input reads as it did. -/
def sealBackUptoRow : OpenClaim := { program := "ytlhcohpcjleekaa", sum := "8276bd256f756836dc94eb06a722d5a8febb6319abbfd955cf9f0040e6b895ab", func := "firth/firthlaw13.SealBack", spec := "sealBack", unfollowed := true, recurses := true, apart := false, narrowed := true }
def SealBackUptoSaid : Prop := sealBackUptoRow.holds Try.pinned (OpenSpec.upto sealBackSpec)

/-- 'firthlaw13.SealOnly', WHERE WHAT IT READS IS OF BULK AT MOST 1048576: true; the input reads as it did. -/
def sealOnlyUptoRow : OpenClaim := { program := "ytlhcohpcjleekaa", sum := "8276bd256f756836dc94eb06a722d5a8febb6319abbfd955cf9f0040e6b895ab", func := "firth/firthlaw13.SealOnly", spec := "sealOnly", unfollowed := true, recurses := true, apart := false, narrowed := true }
def SealOnlyUptoSaid : Prop := sealOnlyUptoRow.holds Try.pinned (OpenSpec.upto sealOnlySpec)

/-- 'firthlaw13.SealTurned', WHERE WHAT IT READS IS OF BULK AT MOST 1048576: true; the input reads as it did. -/
def sealTurnedUptoRow : OpenClaim := { program := "ytlhcohpcjleekaa", sum := "8276bd256f756836dc94eb06a722d5a8febb6319abbfd955cf9f0040e6b895ab", func := "firth/firthlaw13.SealTurned", spec := "sealTurned", unfollowed := true, recurses := true, apart := false, narrowed := true }
def SealTurnedUptoSaid : Prop := sealTurnedUptoRow.holds Try.pinned (OpenSpec.upto sealTurnedSpec)

/-- 'firthlaw13.SealKeeps', WHERE WHAT IT READS IS OF BULK AT MOST 1048576: true; the input reads as it did. -/
def sealKeepsUptoRow : OpenClaim := { program := "ytlhcohpcjleekaa", sum := "8276bd256f756836dc94eb06a722d5a8febb6319abbfd955cf9f0040e6b895ab", func := "firth/firthlaw13.SealKeeps", spec := "sealKeeps", unfollowed := true, recurses := true, apart := false, narrowed := true }
def SealKeepsUptoSaid : Prop := sealKeepsUptoRow.holds Try.pinned (OpenSpec.upto sealKeepsSpec)

end Rows
end Go.Proofs.Ytlhcohpcjleekaa
