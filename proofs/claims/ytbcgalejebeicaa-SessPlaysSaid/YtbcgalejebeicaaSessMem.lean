/-
  Sessions in memory.
-/
import Derived.Test.YtbcgalejebeicaaSessPlain
import Derived.Test.YtbcgalejebeicaaProg
import Derived.Maps.OwnSet
import Derived.Maps.Views
import Derived.WideKeyEntry

namespace Go.Proofs.Ytbcgalejebeicaa
open Go.RowKit
set_option linter.unusedVariables false

/-- The map of asks says whose ask it is. -/
def AskMap (D : DataW Unit) (l : List Ses) : Prop :=
  Maps.IsMap D ∧ ∀ op : Int, Maps.has D (.int .i64 op) = decide (0 < findS l op) ∧ D.atKey (.int .i64 op) (.lit (.int .i64 0)) = .lit (.int .i64 (findS l op : Int))
theorem AskMap.nil : AskMap (.map []) [] := ⟨⟨[], rfl⟩, fun op => by
  have : findS [] op = 0 := findS_no (by simp)
  rw [this]
  exact ⟨rfl, rfl⟩⟩
theorem AskMap.put {D : DataW Unit} {l l' : List Ses} {op : Int} {k : Nat} (h : AskMap D l) (hf : ∀ op', findS l' op' = if op' = op then k + 1 else findS l op') : AskMap (D.put (.int .i64 op) (.lit (.int .i64 ((k + 1 : Nat) : Int)))) l' := by
  refine ⟨h.1.put _ _, fun op' => ?_⟩
  rw [hf op']
  by_cases e : op' = op
  · subst e
    rw [if_pos rfl, Maps.has_put_same h.1 (by trivial), Maps.atKey_put_same h.1 (by trivial)]
    exact ⟨by simp, rfl⟩
  · have hne : (Lit.int .i64 op') ≠ .int .i64 op := by simpa using e
    rw [if_neg e, Maps.has_put_other hne, Maps.atKey_put_other hne]
    exact h.2 op'
theorem AskMap.del {D : DataW Unit} {l l' : List Ses} {op : Int} (h : AskMap D l) (hf : ∀ op', findS l' op' = if op' = op then 0 else findS l op') : AskMap (D.del (.int .i64 op)) l' := by
  refine ⟨by obtain ⟨es, rfl⟩ := h.1; exact ⟨_, rfl⟩, fun op' => ?_⟩
  rw [hf op']
  by_cases e : op' = op
  · subst e
    rw [if_pos rfl, Maps.has_del_same, Maps.atKey_del_same]
    exact ⟨by simp, rfl⟩
  · have hne : (Lit.int .i64 op') ≠ .int .i64 op := by simpa using e
    rw [if_neg e, Maps.has_del_other hne, Maps.atKey_del_other hne]
    exact h.2 op'
theorem AskMap.same {D : DataW Unit} {l l' : List Ses} (h : AskMap D l) (hf : ∀ op', findS l' op' = findS l op') : AskMap D l' :=
  ⟨h.1, fun op' => by rw [hf op']; exact h.2 op'⟩
end Go.Proofs.Ytbcgalejebeicaa
