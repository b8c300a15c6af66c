/-
  A region's operation by its place in the list. No program is looked at here.
-/
import Derived.Deep.RegionHeld3
namespace Go.Proofs.Ytcdbpimpmhfkhaa
theorem dropAt {l : List Oper} {i : Nat} {o : Oper} {r : List Oper} (h : l.drop i = o :: r) : l.toArray[i]? = some o := by
  rw [List.getElem?_toArray, ← List.head?_drop, h]
  rfl
end Go.Proofs.Ytcdbpimpmhfkhaa
