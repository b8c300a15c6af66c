/-
  Laws of layer 6 about messages: what their walks share. (Printed by tools/codelaws.py.)
-/
import Derived.Test.YtgnedaihchmoaaaCodeAwake
import Derived.Test.YtgnedaihchmoaaaCodeShape
namespace Go.Proofs.Ytgnedaihchmoaaa
open Go.RowKit
set_option linter.unusedVariables false

theorem putNum_nat' (n : Nat) : putNum (n : Int) = putN 8 n := by simp [putNum]
theorem putMsgE_cases (m : Mg) : (∃ x, x ≠ 0 ∧ putMsgE m = ([], x)) ∨ (rightM m = true ∧ (msgB m).length ≤ 1048576 ∧ putMsgE m = (putF (msgB m), 0)) := by
  cases h : rightM m
  · exact .inl ⟨1, by decide, putMsgE_no h⟩
  · by_cases h2 : (msgB m).length ≤ 1048576
    · exact .inr ⟨rfl, h2, putMsgE_ok h h2⟩
    · exact .inl ⟨3, by decide, putMsgE_long h h2⟩
theorem msgRd_put {m : Mg} (h1 : rightM m = true) (hw : WfM m) (h2 : (msgB m).length ≤ 1048576) : msgRd (putF (msgB m)) = (some m, 0) := by
  have h := (msgRd_iff (putF (msgB m)) m).2 ⟨h1, hw, h2, rfl⟩
  exact Prod.ext h (msgRd_ok h)
theorem flat_len1 {α : Type} (enc : α → List UInt8) (h : ∀ x, 1 ≤ (enc x).length) : ∀ l : List α, l.length ≤ (l.flatMap enc).length
  | [] => by simp
  | x :: l => by have h1 := h x; have h2 := flat_len1 enc h l; rw [List.flatMap_cons, List.length_append, List.length_cons]; omega
theorem recs_len (m : Mg) : m.recs.length ≤ (msgB m).length := by
  have h := flat_len1 recB (fun x => by unfold recB txtB; rw [List.length_append, List.length_append]; have := (putNum_len (x.key.size : Int)).1; rw [putNum_nat'] at this; omega) m.recs
  unfold msgB listB
  simp only [List.length_append]
  omega

end Go.Proofs.Ytgnedaihchmoaaa
