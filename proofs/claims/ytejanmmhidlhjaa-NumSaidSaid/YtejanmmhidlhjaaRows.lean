/-
  No cell of these rows narrows 'for every input' (looked for: loops, veiled, ifaces, maps, wideKeys, modest, calm, conditions, laid).
  DERIVED. THE GIVEN ROWS OF THIS SEAT. 7 by the template 'for every input the law returns true; each argument reads behind the call as it read before'; 0 by the template 'total and deterministic' (their statements: YtejanmmhidlhjaaTotals.lean).
  GIVEN WITH THE SEED: the statements are not yours to turn. If you find one false, say at which input.
  Laid BY PROGRAM, IN A SANDBOX (cutbox-rows.mjs): the forced cells as the released guide's own fill.sh prints them over the translation ce938b5b941dcfe7… (all of the seat's roots in one cut). By AI agents, Wed Nov 11 2026. No macro, syntax, notation, axiom, sorry.
-/
import Derived.Test.YtejanmmhidlhjaaChecked
import GoSem.Claim
import GoSem.ClaimJoined
import GoSem.ClaimMapViews
import Derived.JoinedTies
import Derived.KernelRfl
namespace Go.Proofs.Ytejanmmhidlhjaa
/- THE CELL 'sum', in the pinned program and in every row, IS THE sha256 OF THE DUMP (.gsa) THAT YtejanmmhidlhjaaProg.lean LOADS. Nothing in Lean hashes anything: it is a label: what it is worth is what the hold of that sum in a sandbox is worth. -/
noncomputable def Try.pinned : Pinned := { name := "ytejanmmhidlhjaa", sum := "ce938b5b941dcfe7b12762cde83edcf8323535f6f190135f753cb7d81d80aa86", checked := Try.checked }
namespace Rows
def none {H : Type} : Left H := { results := [], args := [] }

/-- 'firthlaw01.NumWrites': WHATEVER THE INPUT: true; the input reads as it did. -/
def numWritesSpec : ChangeSpec := { name := "numWrites", fn := fun _ => fun
  | [d1, d2] => { results := [.lit (.bool true)], args := [d1, d2] }
  | _ => none }
def numWritesRow : OpenClaim := { program := "ytejanmmhidlhjaa", sum := "ce938b5b941dcfe7b12762cde83edcf8323535f6f190135f753cb7d81d80aa86", func := "firth/firthlaw01.NumWrites", spec := "numWrites", apart := false }
def NumWritesSaid : Prop := numWritesRow.holds Try.pinned (OpenSpec.ofChange numWritesSpec)

/-- ITS FALSE NEIGHBOUR: 'it returns false'. Refute it at one input. -/
def numWritesWrong : ChangeSpec := { name := "numWrites", fn := fun _ => fun
  | [d1, d2] => { results := [.lit (.bool false)], args := [d1, d2] }
  | _ => none }
def NumWritesWrongFalsely : Prop := numWritesRow.holds Try.pinned (OpenSpec.ofChange numWritesWrong)

/-- 'firthlaw01.NumReads': WHATEVER THE INPUT: true; the input reads as it did. -/
def numReadsSpec : ChangeSpec := { name := "numReads", fn := fun _ => fun
  | [d1, d2] => { results := [.lit (.bool true)], args := [d1, d2] }
  | _ => none }
def numReadsRow : OpenClaim := { program := "ytejanmmhidlhjaa", sum := "ce938b5b941dcfe7b12762cde83edcf8323535f6f190135f753cb7d81d80aa86", func := "firth/firthlaw01.NumReads", spec := "numReads", apart := false }
def NumReadsSaid : Prop := numReadsRow.holds Try.pinned (OpenSpec.ofChange numReadsSpec)

/-- ITS FALSE NEIGHBOUR: 'it returns false'. Refute it at one input. -/
def numReadsWrong : ChangeSpec := { name := "numReads", fn := fun _ => fun
  | [d1, d2] => { results := [.lit (.bool false)], args := [d1, d2] }
  | _ => none }
def NumReadsWrongFalsely : Prop := numReadsRow.holds Try.pinned (OpenSpec.ofChange numReadsWrong)

/-- 'firthlaw01.NumBack': WHATEVER THE INPUT: true; the input reads as it did. -/
def numBackSpec : ChangeSpec := { name := "numBack", fn := fun _ => fun
  | [d1, d2, d3] => { results := [.lit (.bool true)], args := [d1, d2, d3] }
  | _ => none }
def numBackRow : OpenClaim := { program := "ytejanmmhidlhjaa", sum := "ce938b5b941dcfe7b12762cde83edcf8323535f6f190135f753cb7d81d80aa86", func := "firth/firthlaw01.NumBack", spec := "numBack", apart := false }
def NumBackSaid : Prop := numBackRow.holds Try.pinned (OpenSpec.ofChange numBackSpec)

/-- ITS FALSE NEIGHBOUR: 'it returns false'. Refute it at one input. -/
def numBackWrong : ChangeSpec := { name := "numBack", fn := fun _ => fun
  | [d1, d2, d3] => { results := [.lit (.bool false)], args := [d1, d2, d3] }
  | _ => none }
def NumBackWrongFalsely : Prop := numBackRow.holds Try.pinned (OpenSpec.ofChange numBackWrong)

/-- 'firthlaw01.NumOne': WHATEVER THE INPUT: true; the input reads as it did. -/
def numOneSpec : ChangeSpec := { name := "numOne", fn := fun _ => fun
  | [d] => { results := [.lit (.bool true)], args := [d] }
  | _ => none }
def numOneRow : OpenClaim := { program := "ytejanmmhidlhjaa", sum := "ce938b5b941dcfe7b12762cde83edcf8323535f6f190135f753cb7d81d80aa86", func := "firth/firthlaw01.NumOne", spec := "numOne", apart := false }
def NumOneSaid : Prop := numOneRow.holds Try.pinned (OpenSpec.ofChange numOneSpec)

/-- ITS FALSE NEIGHBOUR: 'it returns false'. Refute it at one input. -/
def numOneWrong : ChangeSpec := { name := "numOne", fn := fun _ => fun
  | [d] => { results := [.lit (.bool false)], args := [d] }
  | _ => none }
def NumOneWrongFalsely : Prop := numOneRow.holds Try.pinned (OpenSpec.ofChange numOneWrong)

/-- 'firthlaw01.NumTexts': WHATEVER THE INPUT: true; the input reads as it did. -/
def numTextsSpec : ChangeSpec := { name := "numTexts", fn := fun _ => fun
  | [d1, d2, d3] => { results := [.lit (.bool true)], args := [d1, d2, d3] }
  | _ => none }
def numTextsRow : OpenClaim := { program := "ytejanmmhidlhjaa", sum := "ce938b5b941dcfe7b12762cde83edcf8323535f6f190135f753cb7d81d80aa86", func := "firth/firthlaw01.NumTexts", spec := "numTexts", apart := false }
def NumTextsSaid : Prop := numTextsRow.holds Try.pinned (OpenSpec.ofChange numTextsSpec)

/-- ITS FALSE NEIGHBOUR: 'it returns false'. Refute it at one input. -/
def numTextsWrong : ChangeSpec := { name := "numTexts", fn := fun _ => fun
  | [d1, d2, d3] => { results := [.lit (.bool false)], args := [d1, d2, d3] }
  | _ => none }
def NumTextsWrongFalsely : Prop := numTextsRow.holds Try.pinned (OpenSpec.ofChange numTextsWrong)

/-- 'firthlaw01.NumDigits': WHATEVER THE INPUT: true; the input reads as it did. -/
def numDigitsSpec : ChangeSpec := { name := "numDigits", fn := fun _ => fun
  | [d1, d2] => { results := [.lit (.bool true)], args := [d1, d2] }
  | _ => none }
def numDigitsRow : OpenClaim := { program := "ytejanmmhidlhjaa", sum := "ce938b5b941dcfe7b12762cde83edcf8323535f6f190135f753cb7d81d80aa86", func := "firth/firthlaw01.NumDigits", spec := "numDigits", apart := false }
def NumDigitsSaid : Prop := numDigitsRow.holds Try.pinned (OpenSpec.ofChange numDigitsSpec)

/-- ITS FALSE NEIGHBOUR: 'it returns false'. Refute it at one input. -/
def numDigitsWrong : ChangeSpec := { name := "numDigits", fn := fun _ => fun
  | [d1, d2] => { results := [.lit (.bool false)], args := [d1, d2] }
  | _ => none }
def NumDigitsWrongFalsely : Prop := numDigitsRow.holds Try.pinned (OpenSpec.ofChange numDigitsWrong)

/-- 'firthlaw01.NumSaid': WHATEVER THE INPUT: true; the input reads as it did. -/
def numSaidSpec : ChangeSpec := { name := "numSaid", fn := fun _ => fun
  | [d1, d2] => { results := [.lit (.bool true)], args := [d1, d2] }
  | _ => none }
def numSaidRow : OpenClaim := { program := "ytejanmmhidlhjaa", sum := "ce938b5b941dcfe7b12762cde83edcf8323535f6f190135f753cb7d81d80aa86", func := "firth/firthlaw01.NumSaid", spec := "numSaid", apart := false }
def NumSaidSaid : Prop := numSaidRow.holds Try.pinned (OpenSpec.ofChange numSaidSpec)

/-- ITS FALSE NEIGHBOUR: 'it returns false'. Refute it at one input. -/
def numSaidWrong : ChangeSpec := { name := "numSaid", fn := fun _ => fun
  | [d1, d2] => { results := [.lit (.bool false)], args := [d1, d2] }
  | _ => none }
def NumSaidWrongFalsely : Prop := numSaidRow.holds Try.pinned (OpenSpec.ofChange numSaidWrong)

/- THE SECOND FORM. 'bulk': how many values and letters a reading holds, each counted each time it is reached (what is shared counts as often as it is met; a slice's spare places count too). A statement '..UptoSaid' is the law's where the arguments, and the package variables that the reading takes, are together of bulk at most 1048576: NARROWER than '..Said'. Prove '..Said' where nothing that the law and all that it calls make is longer than what came in: it says more and counts as full. Else prove '..UptoSaid'. A law counts once. -/
mutual
def uptoBulk {H : Type} : DataW H → Nat
  | .lit (.string bytes) => bytes.length + 1
  | .lit _ => 1
  | .nil => 1
  | .ptr d => uptoBulk d + 1
  | .slice elems spare => uptoBulkAll elems + uptoBulkAll spare + 1
  | .agg parts => uptoBulkAll parts + 1
  | .iface _ d => uptoBulk d + 1
  | .map entries => uptoBulkEntries entries + 1
  | .held _ => 1
def uptoBulkAll {H : Type} : List (DataW H) → Nat
  | [] => 0
  | d :: r => uptoBulk d + uptoBulkAll r
def uptoBulkEntries {H : Type} : List (Lit × DataW H) → Nat
  | [] => 0
  | x :: r => uptoBulkEntry x + uptoBulkEntries r
def uptoBulkEntry {H : Type} : Lit × DataW H → Nat
  | (.string bytes, d) => bytes.length + uptoBulk d + 1
  | (_, d) => uptoBulk d + 1
 end
def uptoSmall : (H : Type) → List (DataW H) → Bool := fun _ ds => decide (uptoBulkAll ds ≤ 1048576)
def OpenSpec.upto (s : _root_.Go.ChangeSpec) : _root_.Go.OpenSpec := { _root_.Go.OpenSpec.ofChange s with cond := some uptoSmall }

/-- 'firthlaw01.NumWrites', WHERE WHAT IT READS IS OF BULK AT MOST 1048576: true; the input reads as it did. -/
def numWritesUptoRow : OpenClaim := { program := "ytejanmmhidlhjaa", sum := "ce938b5b941dcfe7b12762cde83edcf8323535f6f190135f753cb7d81d80aa86", func := "firth/firthlaw01.NumWrites", spec := "numWrites", apart := false, narrowed := true }
def NumWritesUptoSaid : Prop := numWritesUptoRow.holds Try.pinned (OpenSpec.upto numWritesSpec)

/-- 'firthlaw01.NumReads', WHERE WHAT IT READS IS OF BULK AT MOST 1048576: true; the input reads as it did. -/
def numReadsUptoRow : OpenClaim := { program := "ytejanmmhidlhjaa", sum := "ce938b5b941dcfe7b12762cde83edcf8323535f6f190135f753cb7d81d80aa86", func := "firth/firthlaw01.NumReads", spec := "numReads", apart := false, narrowed := true }
def NumReadsUptoSaid : Prop := numReadsUptoRow.holds Try.pinned (OpenSpec.upto numReadsSpec)

/-- 'firthlaw01.NumBack', WHERE WHAT IT READS IS OF BULK AT MOST 1048576: true; the input reads as it did. -/
def numBackUptoRow : OpenClaim := { program := "ytejanmmhidlhjaa", sum := "ce938b5b941dcfe7b12762cde83edcf8323535f6f190135f753cb7d81d80aa86", func := "firth/firthlaw01.NumBack", spec := "numBack", apart := false, narrowed := true }
def NumBackUptoSaid : Prop := numBackUptoRow.holds Try.pinned (OpenSpec.upto numBackSpec)

/-- 'firthlaw01.NumOne', WHERE WHAT IT READS IS OF BULK AT MOST 1048576: true; the input reads as it did. -/
def numOneUptoRow : OpenClaim := { program := "ytejanmmhidlhjaa", sum := "ce938b5b941dcfe7b12762cde83edcf8323535f6f190135f753cb7d81d80aa86", func := "firth/firthlaw01.NumOne", spec := "numOne", apart := false, narrowed := true }
def NumOneUptoSaid : Prop := numOneUptoRow.holds Try.pinned (OpenSpec.upto numOneSpec)

/-- 'firthlaw01.NumTexts', WHERE WHAT IT READS IS OF BULK AT MOST 1048576: true; the input reads as it did. -/
def numTextsUptoRow : OpenClaim := { program := "ytejanmmhidlhjaa", sum := "ce938b5b941dcfe7b12762cde83edcf8323535f6f190135f753cb7d81d80aa86", func := "firth/firthlaw01.NumTexts", spec := "numTexts", apart := false, narrowed := true }
def NumTextsUptoSaid : Prop := numTextsUptoRow.holds Try.pinned (OpenSpec.upto numTextsSpec)

/-- 'firthlaw01.NumDigits', WHERE WHAT IT READS IS OF BULK AT MOST 1048576: true; the input reads as it did. -/
def numDigitsUptoRow : OpenClaim := { program := "ytejanmmhidlhjaa", sum := "ce938b5b941dcfe7b12762cde83edcf8323535f6f190135f753cb7d81d80aa86", func := "firth/firthlaw01.NumDigits", spec := "numDigits", apart := false, narrowed := true }
def NumDigitsUptoSaid : Prop := numDigitsUptoRow.holds Try.pinned (OpenSpec.upto numDigitsSpec)

/-- 'firthlaw01.NumSaid', WHERE WHAT IT READS IS OF BULK AT MOST 1048576: true; the input reads as it did. -/
def numSaidUptoRow : OpenClaim := { program := "ytejanmmhidlhjaa", sum := "ce938b5b941dcfe7b12762cde83edcf8323535f6f190135f753cb7d81d80aa86", func := "firth/firthlaw01.NumSaid", spec := "numSaid", apart := false, narrowed := true }
def NumSaidUptoSaid : Prop := numSaidUptoRow.holds Try.pinned (OpenSpec.upto numSaidSpec)

end Rows
end Go.Proofs.Ytejanmmhidlhjaa
