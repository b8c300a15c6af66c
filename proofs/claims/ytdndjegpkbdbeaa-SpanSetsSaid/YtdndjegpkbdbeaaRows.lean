/-
  No cell of these rows narrows 'for every input' (looked for: loops, veiled, ifaces, maps, wideKeys, modest, calm, conditions, laid).
  DERIVED. THE GIVEN ROWS OF THIS SEAT. 7 by the template 'for every input the law returns true; each argument reads behind the call as it read before'; 0 by the template 'total and deterministic' (their statements: YtdndjegpkbdbeaaTotals.lean).
  GIVEN WITH THE SEED: the statements are not yours to turn. If you find one false, say at which input.
  Laid BY PROGRAM, IN A SANDBOX (cutbox-rows.mjs): the forced cells as the released guide's own fill.sh prints them over the translation a2e8ed64467eab95… (all of the seat's roots in one cut). By AI agents, Wed Nov 11 2026. No macro, syntax, notation, axiom, sorry.
-/
import Derived.Test.YtdndjegpkbdbeaaChecked
import GoSem.Claim
import GoSem.ClaimJoined
import GoSem.ClaimMapViews
import Derived.JoinedTies
import Derived.KernelRfl
namespace Go.Proofs.Ytdndjegpkbdbeaa
/- THE CELL 'sum', in the pinned program and in every row, IS THE sha256 OF THE DUMP (.gsa) THAT YtdndjegpkbdbeaaProg.lean LOADS. Nothing in Lean hashes anything: it is a label: what it is worth is what the hold of that sum in a sandbox is worth. -/
noncomputable def Try.pinned : Pinned := { name := "ytdndjegpkbdbeaa", sum := "a2e8ed64467eab95c1cfa54f7649ba4e94ebd6bddd0eacd443e5a0feb898a16d", checked := Try.checked }
namespace Rows
def none {H : Type} : Left H := { results := [], args := [] }

/-- 'firthlaw03.SpanAdds': WHATEVER THE INPUT: true; the input reads as it did. -/
def spanAddsSpec : ChangeSpec := { name := "spanAdds", fn := fun _ => fun
  | [d1, d2] => { results := [.lit (.bool true)], args := [d1, d2] }
  | _ => none }
def spanAddsRow : OpenClaim := { program := "ytdndjegpkbdbeaa", sum := "a2e8ed64467eab95c1cfa54f7649ba4e94ebd6bddd0eacd443e5a0feb898a16d", func := "firth/firthlaw03.SpanAdds", spec := "spanAdds", apart := false }
def SpanAddsSaid : Prop := spanAddsRow.holds Try.pinned (OpenSpec.ofChange spanAddsSpec)

/-- ITS FALSE NEIGHBOUR: 'it returns false'. Refute it at one input. -/
def spanAddsWrong : ChangeSpec := { name := "spanAdds", fn := fun _ => fun
  | [d1, d2] => { results := [.lit (.bool false)], args := [d1, d2] }
  | _ => none }
def SpanAddsWrongFalsely : Prop := spanAddsRow.holds Try.pinned (OpenSpec.ofChange spanAddsWrong)

/-- 'firthlaw03.SpanGrows': WHATEVER THE INPUT: true; the input reads as it did. -/
def spanGrowsSpec : ChangeSpec := { name := "spanGrows", fn := fun _ => fun
  | [d1, d2, d3] => { results := [.lit (.bool true)], args := [d1, d2, d3] }
  | _ => none }
def spanGrowsRow : OpenClaim := { program := "ytdndjegpkbdbeaa", sum := "a2e8ed64467eab95c1cfa54f7649ba4e94ebd6bddd0eacd443e5a0feb898a16d", func := "firth/firthlaw03.SpanGrows", spec := "spanGrows", apart := false }
def SpanGrowsSaid : Prop := spanGrowsRow.holds Try.pinned (OpenSpec.ofChange spanGrowsSpec)

/-- ITS FALSE NEIGHBOUR: 'it returns false'. Refute it at one input. -/
def spanGrowsWrong : ChangeSpec := { name := "spanGrows", fn := fun _ => fun
  | [d1, d2, d3] => { results := [.lit (.bool false)], args := [d1, d2, d3] }
  | _ => none }
def SpanGrowsWrongFalsely : Prop := spanGrowsRow.holds Try.pinned (OpenSpec.ofChange spanGrowsWrong)

/-- 'firthlaw03.SpanMany': WHATEVER THE INPUT: true; the input reads as it did. -/
def spanManySpec : ChangeSpec := { name := "spanMany", fn := fun _ => fun
  | [d1, d2, d3] => { results := [.lit (.bool true)], args := [d1, d2, d3] }
  | _ => none }
def spanManyRow : OpenClaim := { program := "ytdndjegpkbdbeaa", sum := "a2e8ed64467eab95c1cfa54f7649ba4e94ebd6bddd0eacd443e5a0feb898a16d", func := "firth/firthlaw03.SpanMany", spec := "spanMany", apart := false }
def SpanManySaid : Prop := spanManyRow.holds Try.pinned (OpenSpec.ofChange spanManySpec)

/-- ITS FALSE NEIGHBOUR: 'it returns false'. Refute it at one input. -/
def spanManyWrong : ChangeSpec := { name := "spanMany", fn := fun _ => fun
  | [d1, d2, d3] => { results := [.lit (.bool false)], args := [d1, d2, d3] }
  | _ => none }
def SpanManyWrongFalsely : Prop := spanManyRow.holds Try.pinned (OpenSpec.ofChange spanManyWrong)

/-- 'firthlaw03.SpanKeeps': WHATEVER THE INPUT: true; the input reads as it did. -/
def spanKeepsSpec : ChangeSpec := { name := "spanKeeps", fn := fun _ => fun
  | [d1, d2] => { results := [.lit (.bool true)], args := [d1, d2] }
  | _ => none }
def spanKeepsRow : OpenClaim := { program := "ytdndjegpkbdbeaa", sum := "a2e8ed64467eab95c1cfa54f7649ba4e94ebd6bddd0eacd443e5a0feb898a16d", func := "firth/firthlaw03.SpanKeeps", spec := "spanKeeps", apart := false }
def SpanKeepsSaid : Prop := spanKeepsRow.holds Try.pinned (OpenSpec.ofChange spanKeepsSpec)

/-- ITS FALSE NEIGHBOUR: 'it returns false'. Refute it at one input. -/
def spanKeepsWrong : ChangeSpec := { name := "spanKeeps", fn := fun _ => fun
  | [d1, d2] => { results := [.lit (.bool false)], args := [d1, d2] }
  | _ => none }
def SpanKeepsWrongFalsely : Prop := spanKeepsRow.holds Try.pinned (OpenSpec.ofChange spanKeepsWrong)

/-- 'firthlaw03.SpanLooks': WHATEVER THE INPUT: true; the input reads as it did. -/
def spanLooksSpec : ChangeSpec := { name := "spanLooks", fn := fun _ => fun
  | [d1, d2] => { results := [.lit (.bool true)], args := [d1, d2] }
  | _ => none }
def spanLooksRow : OpenClaim := { program := "ytdndjegpkbdbeaa", sum := "a2e8ed64467eab95c1cfa54f7649ba4e94ebd6bddd0eacd443e5a0feb898a16d", func := "firth/firthlaw03.SpanLooks", spec := "spanLooks", apart := false }
def SpanLooksSaid : Prop := spanLooksRow.holds Try.pinned (OpenSpec.ofChange spanLooksSpec)

/-- ITS FALSE NEIGHBOUR: 'it returns false'. Refute it at one input. -/
def spanLooksWrong : ChangeSpec := { name := "spanLooks", fn := fun _ => fun
  | [d1, d2] => { results := [.lit (.bool false)], args := [d1, d2] }
  | _ => none }
def SpanLooksWrongFalsely : Prop := spanLooksRow.holds Try.pinned (OpenSpec.ofChange spanLooksWrong)

/-- 'firthlaw03.SpanJoins': WHATEVER THE INPUT: true; the input reads as it did. -/
def spanJoinsSpec : ChangeSpec := { name := "spanJoins", fn := fun _ => fun
  | [d1, d2] => { results := [.lit (.bool true)], args := [d1, d2] }
  | _ => none }
def spanJoinsRow : OpenClaim := { program := "ytdndjegpkbdbeaa", sum := "a2e8ed64467eab95c1cfa54f7649ba4e94ebd6bddd0eacd443e5a0feb898a16d", func := "firth/firthlaw03.SpanJoins", spec := "spanJoins", apart := false }
def SpanJoinsSaid : Prop := spanJoinsRow.holds Try.pinned (OpenSpec.ofChange spanJoinsSpec)

/-- ITS FALSE NEIGHBOUR: 'it returns false'. Refute it at one input. -/
def spanJoinsWrong : ChangeSpec := { name := "spanJoins", fn := fun _ => fun
  | [d1, d2] => { results := [.lit (.bool false)], args := [d1, d2] }
  | _ => none }
def SpanJoinsWrongFalsely : Prop := spanJoinsRow.holds Try.pinned (OpenSpec.ofChange spanJoinsWrong)

/-- 'firthlaw03.SpanSets': WHATEVER THE INPUT: true; the input reads as it did. -/
def spanSetsSpec : ChangeSpec := { name := "spanSets", fn := fun _ => fun
  | [d1, d2, d3] => { results := [.lit (.bool true)], args := [d1, d2, d3] }
  | _ => none }
def spanSetsRow : OpenClaim := { program := "ytdndjegpkbdbeaa", sum := "a2e8ed64467eab95c1cfa54f7649ba4e94ebd6bddd0eacd443e5a0feb898a16d", func := "firth/firthlaw03.SpanSets", spec := "spanSets", apart := false }
def SpanSetsSaid : Prop := spanSetsRow.holds Try.pinned (OpenSpec.ofChange spanSetsSpec)

/-- ITS FALSE NEIGHBOUR: 'it returns false'. Refute it at one input. -/
def spanSetsWrong : ChangeSpec := { name := "spanSets", fn := fun _ => fun
  | [d1, d2, d3] => { results := [.lit (.bool false)], args := [d1, d2, d3] }
  | _ => none }
def SpanSetsWrongFalsely : Prop := spanSetsRow.holds Try.pinned (OpenSpec.ofChange spanSetsWrong)

/- THE SECOND FORM. 'bulk': how many values and letters a reading holds, each counted each time it is reached (what is shared counts as often as it is met; a slice's spare places count too). A statement '..UptoSaid' is the law's where the arguments, and the package variables that the reading takes, are together of bulk at most 1048576: NARROWER than '..Said'. Prove '..Said' where nothing that the law and all that it calls make is longer than what came in: it says more and counts as full. Else prove '..UptoSaid'. A law counts once. -/
mutual
def uptoBulk {H : Type} : DataW H → Nat
  | .lit (.string bytes) => bytes.length + 1
  | .lit _ => 1
  | .nil => 1
  | .ptr d => uptoBulk d + 1
  | .slice elems spare => uptoBulkAll elems + uptoBulkAll spare + 1
  | .agg parts => uptoBulkAll parts + 1
  | .iface _ d => uptoBulk d + 1
  | .map entries => uptoBulkEntries entries + 1
  | .held _ => 1
def uptoBulkAll {H : Type} : List (DataW H) → Nat
  | [] => 0
  | d :: r => uptoBulk d + uptoBulkAll r
def uptoBulkEntries {H : Type} : List (Lit × DataW H) → Nat
  | [] => 0
  | x :: r => uptoBulkEntry x + uptoBulkEntries r
def uptoBulkEntry {H : Type} : Lit × DataW H → Nat
  | (.string bytes, d) => bytes.length + uptoBulk d + 1
  | (_, d) => uptoBulk d + 1
 end
def uptoSmall : (H : Type) → List (DataW H) → Bool := fun _ ds => decide (uptoBulkAll ds ≤ 1048576)
def OpenSpec.upto (s : _root_.Go.ChangeSpec) : _root_.Go.OpenSpec := { _root_.Go.OpenSpec.ofChange s with cond := some uptoSmall }

/-- 'firthlaw03.SpanAdds', WHERE WHAT IT READS IS OF BULK AT MOST 1048576: true; the input reads as it did. -/
def spanAddsUptoRow : OpenClaim := { program := "ytdndjegpkbdbeaa", sum := "a2e8ed64467eab95c1cfa54f7649ba4e94ebd6bddd0eacd443e5a0feb898a16d", func := "firth/firthlaw03.SpanAdds", spec := "spanAdds", apart := false, narrowed := true }
def SpanAddsUptoSaid : Prop := spanAddsUptoRow.holds Try.pinned (OpenSpec.upto spanAddsSpec)

/-- 'firthlaw03.SpanGrows', WHERE WHAT IT READS IS OF BULK AT MOST 1048576: true; the input reads as it did. -/
def spanGrowsUptoRow : OpenClaim := { program := "ytdndjegpkbdbeaa", sum := "a2e8ed64467eab95c1cfa54f7649ba4e94ebd6bddd0eacd443e5a0feb898a16d", func := "firth/firthlaw03.SpanGrows", spec := "spanGrows", apart := false, narrowed := true }
def SpanGrowsUptoSaid : Prop := spanGrowsUptoRow.holds Try.pinned (OpenSpec.upto spanGrowsSpec)

/-- 'firthlaw03.SpanMany', WHERE WHAT IT READS IS OF BULK AT MOST 1048576: true; the input reads as it did. -/
def spanManyUptoRow : OpenClaim := { program := "ytdndjegpkbdbeaa", sum := "a2e8ed64467eab95c1cfa54f7649ba4e94ebd6bddd0eacd443e5a0feb898a16d", func := "firth/firthlaw03.SpanMany", spec := "spanMany", apart := false, narrowed := true }
def SpanManyUptoSaid : Prop := spanManyUptoRow.holds Try.pinned (OpenSpec.upto spanManySpec)

/-- 'firthlaw03.SpanKeeps', WHERE WHAT IT READS IS OF BULK AT MOST 1048576: true; the input reads as it did. -/
def spanKeepsUptoRow : OpenClaim := { program := "ytdndjegpkbdbeaa", sum := "a2e8ed64467eab95c1cfa54f7649ba4e94ebd6bddd0eacd443e5a0feb898a16d", func := "firth/firthlaw03.SpanKeeps", spec := "spanKeeps", apart := false, narrowed := true }
def SpanKeepsUptoSaid : Prop := spanKeepsUptoRow.holds Try.pinned (OpenSpec.upto spanKeepsSpec)

/-- 'firthlaw03.SpanLooks', WHERE WHAT IT READS IS OF BULK AT MOST 1048576: true; the input reads as it did. -/
def spanLooksUptoRow : OpenClaim := { program := "ytdndjegpkbdbeaa", sum := "a2e8ed64467eab95c1cfa54f7649ba4e94ebd6bddd0eacd443e5a0feb898a16d", func := "firth/firthlaw03.SpanLooks", spec := "spanLooks", apart := false, narrowed := true }
def SpanLooksUptoSaid : Prop := spanLooksUptoRow.holds Try.pinned (OpenSpec.upto spanLooksSpec)

/-- 'firthlaw03.SpanJoins', WHERE WHAT IT READS IS OF BULK AT MOST 1048576: true; the input reads as it did. -/
def spanJoinsUptoRow : OpenClaim := { program := "ytdndjegpkbdbeaa", sum := "a2e8ed64467eab95c1cfa54f7649ba4e94ebd6bddd0eacd443e5a0feb898a16d", func := "firth/firthlaw03.SpanJoins", spec := "spanJoins", apart := false, narrowed := true }
def SpanJoinsUptoSaid : Prop := spanJoinsUptoRow.holds Try.pinned (OpenSpec.upto spanJoinsSpec)

/-- 'firthlaw03.SpanSets', WHERE WHAT IT READS IS OF BULK AT MOST 1048576: true; the input reads as it did. -/
def spanSetsUptoRow : OpenClaim := { program := "ytdndjegpkbdbeaa", sum := "a2e8ed64467eab95c1cfa54f7649ba4e94ebd6bddd0eacd443e5a0feb898a16d", func := "firth/firthlaw03.SpanSets", spec := "spanSets", apart := false, narrowed := true }
def SpanSetsUptoSaid : Prop := spanSetsUptoRow.holds Try.pinned (OpenSpec.upto spanSetsSpec)

end Rows
end Go.Proofs.Ytdndjegpkbdbeaa
