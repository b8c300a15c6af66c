/-
  An array that came in, opened by its shape. No program is looked at here.
-/
import Derived.Test.YtlhcohpcjleekaaShape
namespace Go.Proofs.Ytlhcohpcjleekaa
open Go.ChangeShapes Go.WideShapes Go.ChangeAt Go.RowKit Go.Deep
set_option linter.unusedVariables false
section
variable {H : Type} {enc : TypeId × Value → H} {P : Program} {w : World}
theorem open_sh_array {ts : List TypeId} {ds : List (DataW H)} (hsz : (DataW.weightsEach P ts ds).all (· ≤ reachBytes) = true) {j base : Nat} {t e : TypeId} {k : Nat} {d : DataW H} {v : Value} {p : List MemPlace} {s : Sh} (ht : ts[j]? = some t) (hd : ds[j]? = some d)
    (hu : P.underlying t = some (.array k e)) (hv : Value.okWide P w .any base t v) (n : Nat) (hfit : fitB P n t s = true) (h : DataW.Trod enc P w 0 (fun _ => true) true t v d p) : ∃ (cs : List Value) (x : s.T), v = .agg cs.toArray ∧ Rd w s cs x := by
  simp only [Value.okWide, hu] at hv
  obtain ⟨cs, rfl, _⟩ := hv
  obtain ⟨x, hx⟩ := open_sh hsz ht hd n hfit h
  exact ⟨cs.toList, x, by simp, by simpa [Value.cells] using hx⟩
end
end Go.Proofs.Ytlhcohpcjleekaa
