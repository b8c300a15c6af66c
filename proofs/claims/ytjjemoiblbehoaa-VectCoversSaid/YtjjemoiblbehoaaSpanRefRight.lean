/-
  firthref03.Right tells whether a list of spans is right.
-/
import Derived.Test.YtjjemoiblbehoaaSpanSmall
import Derived.Test.YtjjemoiblbehoaaExt
import Derived.IntWalk
namespace Go.Proofs.Ytjjemoiblbehoaa
open Go.RowKit
set_option linter.unusedVariables false

theorem rightS_long {l : List Sp} (h : 1024 < l.length) : rightS l = false := rightS_false (fun h' => by omega)
theorem lastOf_at {l : List Sp} {j : Nat} {x : Sp} (hx : l[j]? = some x) {k : Nat} (hk : k = j + 1) : lastOf l k = x := by subst hk; exact last_at hx

theorem SlS.at2 {w : World} {b off n k : Nat} {l : List Sp} (h : SlS w (some ⟨b, off, none⟩) n l) (hk : k < n) :
    ∃ (x y z : Int), l[k]? = some (x, y, z) ∧ w.cell? ⟨b, off + k * 3, none⟩ = some (.int .i64 x) ∧ w.cell? ⟨b, off + k * 3 + 1, none⟩ = some (.int .i64 y) ∧ w.cell? ⟨b, off + k * 3 + 2, none⟩ = some (.int .i64 z) := by
  obtain ⟨b', off', x, y, z, e, h1⟩ := h.at_ hk
  injection e with e
  injection e with e1 e2
  subst e1 e2
  exact ⟨x, y, z, h1⟩

theorem SlS.cells_at {w : World} {b off n k : Nat} {l : List Sp} {x y z : Int} (h : SlS w (some ⟨b, off, none⟩) n l) (hx : l[k]? = some (x, y, z)) :
    w.cell? ⟨b, off + k * 3, none⟩ = some (.int .i64 x) ∧ w.cell? ⟨b, off + k * 3 + 1, none⟩ = some (.int .i64 y) ∧ w.cell? ⟨b, off + k * 3 + 2, none⟩ = some (.int .i64 z) := by
  have hk : k < n := by have := h.len; have := (List.getElem?_eq_some_iff.1 hx).1; omega
  obtain ⟨x', y', z', h0, h1⟩ := h.at2 hk
  rw [hx] at h0
  injection h0 with h0
  injection h0 with e1 h0
  injection h0 with e2 e3
  subst e1 e2 e3
  exact h1

end Go.Proofs.Ytjjemoiblbehoaa
