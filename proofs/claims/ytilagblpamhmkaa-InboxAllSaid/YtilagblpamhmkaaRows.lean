/-
  No cell of these rows narrows 'for every input' (looked for: loops, veiled, ifaces, maps, wideKeys, modest, calm, conditions, laid).
  DERIVED. THE GIVEN ROWS OF THIS SEAT. 6 by the template 'for every input the law returns true; each argument reads behind the call as it read before'; 0 by the template 'total and deterministic' (their statements: YtilagblpamhmkaaTotals.lean).
  GIVEN WITH THE SEED: the statements are not yours to turn. If you find one false, say at which input.
  Laid BY PROGRAM, IN A SANDBOX (cutbox-rows.mjs): the forced cells as the released guide's own fill.sh prints them over the translation 7f24db57c0f803a5… (all of the seat's roots in one cut). By AI agents, Wed Nov 11 2026. No macro, syntax, notation, axiom, sorry.
-/
import Derived.Test.YtilagblpamhmkaaChecked
import GoSem.Claim
import GoSem.ClaimJoined
import GoSem.ClaimMapViews
import Derived.JoinedTies
import Derived.KernelRfl
namespace Go.Proofs.Ytilagblpamhmkaa
/- THE CELL 'sum', in the pinned program and in every row, IS THE sha256 OF THE DUMP (.gsa) THAT YtilagblpamhmkaaProg.lean LOADS. Nothing in Lean hashes anything: it is a label: what it is worth is what the hold of that sum in a sandbox is worth. -/
noncomputable def Try.pinned : Pinned := { name := "ytilagblpamhmkaa", sum := "7f24db57c0f803a5e2e6a9b822e1c4a3fb830ae0a4707fff5ce352b6532c2fd3", checked := Try.checked }
namespace Rows
def none {H : Type} : Left H := { results := [], args := [] }

/-- 'firthlaw18.InboxOrder': WHATEVER THE INPUT: true; the input reads as it did. -/
def inboxOrderSpec : ChangeSpec := { name := "inboxOrder", fn := fun _ => fun
  | [d1, d2, d3] => { results := [.lit (.bool true)], args := [d1, d2, d3] }
  | _ => none }
def inboxOrderRow : OpenClaim := { program := "ytilagblpamhmkaa", sum := "7f24db57c0f803a5e2e6a9b822e1c4a3fb830ae0a4707fff5ce352b6532c2fd3", func := "firth/firthlaw18.InboxOrder", spec := "inboxOrder", unfollowed := true, recurses := true, apart := false }
def InboxOrderSaid : Prop := inboxOrderRow.holds Try.pinned (OpenSpec.ofChange inboxOrderSpec)

/-- ITS FALSE NEIGHBOUR: 'it returns false'. Refute it at one input. -/
def inboxOrderWrong : ChangeSpec := { name := "inboxOrder", fn := fun _ => fun
  | [d1, d2, d3] => { results := [.lit (.bool false)], args := [d1, d2, d3] }
  | _ => none }
def InboxOrderWrongFalsely : Prop := inboxOrderRow.holds Try.pinned (OpenSpec.ofChange inboxOrderWrong)

/-- 'firthlaw18.InboxAll': WHATEVER THE INPUT: true; the input reads as it did. -/
def inboxAllSpec : ChangeSpec := { name := "inboxAll", fn := fun _ => fun
  | [d1, d2, d3] => { results := [.lit (.bool true)], args := [d1, d2, d3] }
  | _ => none }
def inboxAllRow : OpenClaim := { program := "ytilagblpamhmkaa", sum := "7f24db57c0f803a5e2e6a9b822e1c4a3fb830ae0a4707fff5ce352b6532c2fd3", func := "firth/firthlaw18.InboxAll", spec := "inboxAll", unfollowed := true, recurses := true, apart := false }
def InboxAllSaid : Prop := inboxAllRow.holds Try.pinned (OpenSpec.ofChange inboxAllSpec)

/-- ITS FALSE NEIGHBOUR: 'it returns false'. Refute it at one input. -/
def inboxAllWrong : ChangeSpec := { name := "inboxAll", fn := fun _ => fun
  | [d1, d2, d3] => { results := [.lit (.bool false)], args := [d1, d2, d3] }
  | _ => none }
def InboxAllWrongFalsely : Prop := inboxAllRow.holds Try.pinned (OpenSpec.ofChange inboxAllWrong)

/-- 'firthlaw18.InboxRoom': WHATEVER THE INPUT: true; the input reads as it did. -/
def inboxRoomSpec : ChangeSpec := { name := "inboxRoom", fn := fun _ => fun
  | [d1, d2] => { results := [.lit (.bool true)], args := [d1, d2] }
  | _ => none }
def inboxRoomRow : OpenClaim := { program := "ytilagblpamhmkaa", sum := "7f24db57c0f803a5e2e6a9b822e1c4a3fb830ae0a4707fff5ce352b6532c2fd3", func := "firth/firthlaw18.InboxRoom", spec := "inboxRoom", unfollowed := true, recurses := true, apart := false }
def InboxRoomSaid : Prop := inboxRoomRow.holds Try.pinned (OpenSpec.ofChange inboxRoomSpec)

/-- ITS FALSE NEIGHBOUR: 'it returns false'. Refute it at one input. -/
def inboxRoomWrong : ChangeSpec := { name := "inboxRoom", fn := fun _ => fun
  | [d1, d2] => { results := [.lit (.bool false)], args := [d1, d2] }
  | _ => none }
def InboxRoomWrongFalsely : Prop := inboxRoomRow.holds Try.pinned (OpenSpec.ofChange inboxRoomWrong)

/-- 'firthlaw18.InboxKeeps': WHATEVER THE INPUT: true; the input reads as it did. -/
def inboxKeepsSpec : ChangeSpec := { name := "inboxKeeps", fn := fun _ => fun
  | [d] => { results := [.lit (.bool true)], args := [d] }
  | _ => none }
def inboxKeepsRow : OpenClaim := { program := "ytilagblpamhmkaa", sum := "7f24db57c0f803a5e2e6a9b822e1c4a3fb830ae0a4707fff5ce352b6532c2fd3", func := "firth/firthlaw18.InboxKeeps", spec := "inboxKeeps", unfollowed := true, recurses := true, apart := false }
def InboxKeepsSaid : Prop := inboxKeepsRow.holds Try.pinned (OpenSpec.ofChange inboxKeepsSpec)

/-- ITS FALSE NEIGHBOUR: 'it returns false'. Refute it at one input. -/
def inboxKeepsWrong : ChangeSpec := { name := "inboxKeeps", fn := fun _ => fun
  | [d] => { results := [.lit (.bool false)], args := [d] }
  | _ => none }
def InboxKeepsWrongFalsely : Prop := inboxKeepsRow.holds Try.pinned (OpenSpec.ofChange inboxKeepsWrong)

/-- 'firthlaw18.InboxPlays': WHATEVER THE INPUT: true; the input reads as it did. -/
def inboxPlaysSpec : ChangeSpec := { name := "inboxPlays", fn := fun _ => fun
  | [d1, d2] => { results := [.lit (.bool true)], args := [d1, d2] }
  | _ => none }
def inboxPlaysRow : OpenClaim := { program := "ytilagblpamhmkaa", sum := "7f24db57c0f803a5e2e6a9b822e1c4a3fb830ae0a4707fff5ce352b6532c2fd3", func := "firth/firthlaw18.InboxPlays", spec := "inboxPlays", unfollowed := true, recurses := true, apart := false }
def InboxPlaysSaid : Prop := inboxPlaysRow.holds Try.pinned (OpenSpec.ofChange inboxPlaysSpec)

/-- ITS FALSE NEIGHBOUR: 'it returns false'. Refute it at one input. -/
def inboxPlaysWrong : ChangeSpec := { name := "inboxPlays", fn := fun _ => fun
  | [d1, d2] => { results := [.lit (.bool false)], args := [d1, d2] }
  | _ => none }
def InboxPlaysWrongFalsely : Prop := inboxPlaysRow.holds Try.pinned (OpenSpec.ofChange inboxPlaysWrong)

/-- 'firthlaw18.InboxCleans': WHATEVER THE INPUT: true; the input reads as it did. -/
def inboxCleansSpec : ChangeSpec := { name := "inboxCleans", fn := fun _ => fun
  | [d1, d2] => { results := [.lit (.bool true)], args := [d1, d2] }
  | _ => none }
def inboxCleansRow : OpenClaim := { program := "ytilagblpamhmkaa", sum := "7f24db57c0f803a5e2e6a9b822e1c4a3fb830ae0a4707fff5ce352b6532c2fd3", func := "firth/firthlaw18.InboxCleans", spec := "inboxCleans", unfollowed := true, recurses := true, apart := false }
def InboxCleansSaid : Prop := inboxCleansRow.holds Try.pinned (OpenSpec.ofChange inboxCleansSpec)

/-- ITS FALSE NEIGHBOUR: 'it returns false'. Refute it at one input. -/
def inboxCleansWrong : ChangeSpec := { name := "inboxCleans", fn := fun _ => fun
  | [d1, d2] => { results := [.lit (.bool false)], args := [d1, d2] }
  | _ => none }
def InboxCleansWrongFalsely : Prop := inboxCleansRow.holds Try.pinned (OpenSpec.ofChange inboxCleansWrong)

/- THE SECOND FORM. 'bulk': how many values and letters a reading holds, each counted each time it is reached (what is shared counts as often as it is met; a slice's spare places count too). A statement '..UptoSaid' is the law's where the arguments, and the package variables that the reading takes, are together of bulk at most 1048576: NARROWER than '..Said'. Prove '..Said' where nothing that the law and all that it calls make is longer than what came in: it says more and counts as full. Else prove '..UptoSaid'. A law counts once. -/
mutual
def uptoBulk {H : Type} : DataW H → Nat
  | .lit (.string bytes) => bytes.length + 1
  | .lit _ => 1
  | .nil => 1
  | .ptr d => uptoBulk d + 1
  | .slice elems spare => uptoBulkAll elems + uptoBulkAll spare + 1
  | .agg parts => uptoBulkAll parts + 1
  | .iface _ d => uptoBulk d + 1
  | .map entries => uptoBulkEntries entries + 1
  | .held _ => 1
def uptoBulkAll {H : Type} : List (DataW H) → Nat
  | [] => 0
  | d :: r => uptoBulk d + uptoBulkAll r
def uptoBulkEntries {H : Type} : List (Lit × DataW H) → Nat
  | [] => 0
  | x :: r => uptoBulkEntry x + uptoBulkEntries r
def uptoBulkEntry {H : Type} : Lit × DataW H → Nat
  | (.string bytes, d) => bytes.length + uptoBulk d + 1
  | (_, d) => uptoBulk d + 1
 end
def uptoSmall : (H : Type) → List (DataW H) → Bool := fun _ ds => decide (uptoBulkAll ds ≤ 1048576)
def OpenSpec.upto (s : _root_.Go.ChangeSpec) : _root_.Go.OpenSpec := { _root_.Go.OpenSpec.ofChange s with cond := some uptoSmall }

/-- 'firthlaw18.InboxOrder', WHERE WHAT IT READS IS OF BULK AT MOST 1048576: true; the input reads as it did. -/
def inboxOrderUptoRow : OpenClaim := { program := "ytilagblpamhmkaa", sum := "7f24db57c0f803a5e2e6a9b822e1c4a3fb830ae0a4707fff5ce352b6532c2fd3", func := "firth/firthlaw18.InboxOrder", spec := "inboxOrder", unfollowed := true, recurses := true, apart := false, narrowed := true }
def InboxOrderUptoSaid : Prop := inboxOrderUptoRow.holds Try.pinned (OpenSpec.upto inboxOrderSpec)

/-- 'firthlaw18.InboxAll', WHERE WHAT IT READS IS OF BULK AT MOST 1048576: true; the input reads as it did. -/
def inboxAllUptoRow : OpenClaim := { program := "ytilagblpamhmkaa", sum := "7f24db57c0f803a5e2e6a9b822e1c4a3fb830ae0a4707fff5ce352b6532c2fd3", func := "firth/firthlaw18.InboxAll", spec := "inboxAll", unfollowed := true, recurses := true, apart := false, narrowed := true }
def InboxAllUptoSaid : Prop := inboxAllUptoRow.holds Try.pinned (OpenSpec.upto inboxAllSpec)

/-- 'firthlaw18.InboxRoom', WHERE WHAT IT READS IS OF BULK AT MOST 1048576: true; the input reads as it did. -/
def inboxRoomUptoRow : OpenClaim := { program := "ytilagblpamhmkaa", sum := "7f24db57c0f803a5e2e6a9b822e1c4a3fb830ae0a4707fff5ce352b6532c2fd3", func := "firth/firthlaw18.InboxRoom", spec := "inboxRoom", unfollowed := true, recurses := true, apart := false, narrowed := true }
def InboxRoomUptoSaid : Prop := inboxRoomUptoRow.holds Try.pinned (OpenSpec.upto inboxRoomSpec)

/-- 'firthlaw18.InboxKeeps', WHERE WHAT IT READS IS OF BULK AT MOST 1048576: true; the input reads as it did. -/
def inboxKeepsUptoRow : OpenClaim := { program := "ytilagblpamhmkaa", sum := "7f24db57c0f803a5e2e6a9b822e1c4a3fb830ae0a4707fff5ce352b6532c2fd3", func := "firth/firthlaw18.InboxKeeps", spec := "inboxKeeps", unfollowed := true, recurses := true, apart := false, narrowed := true }
def InboxKeepsUptoSaid : Prop := inboxKeepsUptoRow.holds Try.pinned (OpenSpec.upto inboxKeepsSpec)

/-- 'firthlaw18.InboxPlays', WHERE WHAT IT READS IS OF BULK AT MOST 1048576: true; the input reads as it did. -/
def inboxPlaysUptoRow : OpenClaim := { program := "ytilagblpamhmkaa", sum := "7f24db57c0f803a5e2e6a9b822e1c4a3fb830ae0a4707fff5ce352b6532c2fd3", func := "firth/firthlaw18.InboxPlays", spec := "inboxPlays", unfollowed := true, recurses := true, apart := false, narrowed := true }
def InboxPlaysUptoSaid : Prop := inboxPlaysUptoRow.holds Try.pinned (OpenSpec.upto inboxPlaysSpec)

/-- 'firthlaw18.InboxCleans', WHERE WHAT IT READS IS OF BULK AT MOST 1048576: true; the input reads as it did. -/
def inboxCleansUptoRow : OpenClaim := { program := "ytilagblpamhmkaa", sum := "7f24db57c0f803a5e2e6a9b822e1c4a3fb830ae0a4707fff5ce352b6532c2fd3", func := "firth/firthlaw18.InboxCleans", spec := "inboxCleans", unfollowed := true, recurses := true, apart := false, narrowed := true }
def InboxCleansUptoSaid : Prop := inboxCleansUptoRow.holds Try.pinned (OpenSpec.upto inboxCleansSpec)

end Rows
end Go.Proofs.Ytilagblpamhmkaa
