/-
  firthref06.RightMsg: of whatever message.
-/
import Derived.Test.YtgnedaihchmoaaaCodeRefRightA
import Derived.Test.YtgnedaihchmoaaaCodeRefRightB
import Derived.Test.YtgnedaihchmoaaaCodeRefRightC
namespace Go.Proofs.Ytgnedaihchmoaaa
open Go.RowKit
set_option linter.unusedVariables false

set_option maxHeartbeats 8000000 in
set_option maxRecDepth 100000 in
theorem refRightMsg_any (x : Mx) (w : World) (hv : MRow w x) : Calls Try.prog 14 #[.agg x.cells] w (BoolE w (rightM x.m)) := by
  by_cases h : (1 ≤ x.m.kind ∧ x.m.kind ≤ 17) ∧ placeB x.m.fs x.m.fn = true ∧ placeB x.m.ts x.m.tn = true ∧ 0 ≤ x.m.id ∧ 0 ≤ x.m.n ∧ (0 ≤ x.m.fo ∧ x.m.fo ≤ 8) ∧ (0 ≤ x.m.code ∧ x.m.code ≤ 999) ∧ x.m.key.size ≤ 32
  · obtain ⟨h1, h2, h3, h4⟩ := h
    rcases Nat.eq_zero_or_pos x.nv with hz | hz
    · exact refRightMsg_b x w hv h1 h2 h3 h4 hz
    · exact refRightMsg_c x w hv h1 h2 h3 h4 hz
  · exact refRightMsg_a x w hv h
end Go.Proofs.Ytgnedaihchmoaaa
