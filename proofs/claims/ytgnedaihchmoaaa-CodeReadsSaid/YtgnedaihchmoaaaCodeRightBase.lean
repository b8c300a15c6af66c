/-
  firth/code.RightMsg. (Printed by tools/rightmsg.py.)
-/
import Derived.Test.YtgnedaihchmoaaaCodeRight
namespace Go.Proofs.Ytgnedaihchmoaaa
open Go.RowKit
set_option linter.unusedVariables false

theorem bet64_ex (lo hi : Int) (w : World) : Calls Try.prog 48 #[.int .i64 lo, .int .i64 hi] w fun e w' => ∃ g, e = .returned (betV 91 g) ∧ w'.cell? ⟨g, 0, none⟩ = some (.int .i64 lo) ∧ w'.cell? ⟨g + 1, 0, none⟩ = some (.int .i64 hi) ∧ Below w.heap.size w w' :=
  (between64_any lo hi w).mono fun _ _ h => ⟨_, h⟩
theorem betI_ex (lo hi : Int) (w : World) : Calls Try.prog 50 #[.int .i64 lo, .int .i64 hi] w fun e w' => ∃ g, e = .returned (betV 92 g) ∧ w'.cell? ⟨g, 0, none⟩ = some (.int .i64 lo) ∧ w'.cell? ⟨g + 1, 0, none⟩ = some (.int .i64 hi) ∧ Below w.heap.size w w' :=
  (betweenI_any lo hi w).mono fun _ _ h => ⟨_, h⟩
theorem rightM_mem {w : World} {x : Mx} (h : MRow w x) : rightM x.m = (inB 1 17 x.m.kind && (placeB x.m.fs x.m.fn && (placeB x.m.ts x.m.tn && (decide (0 ≤ x.m.id) && (decide (0 ≤ x.m.n) && (inB 0 8 x.m.fo && (inB 0 999 x.m.code && (decide ((x.m.key.size : Int) ≤ 32) &&
    (allB rightR x.nr x.m.recs && (allB (inB 0 4611686018427387904) 16 x.m.vec && (allB (inB 0 15) 2 x.m.path && (decide ((x.nh : Int) ≤ 16) && allB (inB 1 16) 16 x.m.route)))))))))))) := by
  have h1 := h.recs.len
  have h2 := Sl.len1 h.hashes
  unfold rightM
  rw [show allB rightR x.nr x.m.recs = x.m.recs.all rightR by unfold allB; rw [h1]; simp, show decide ((x.m.key.size : Int) ≤ 32) = decide (x.m.key.size ≤ 32) from decide_eq_decide.2 (by omega), show decide ((x.nh : Int) ≤ 16) = decide (x.m.hashes.length ≤ 16) from decide_eq_decide.2 (by omega)]
theorem Mx.cell {w : World} {b : Nat} {x : Mx} {t : TypeId} (h : w.heap[b]? = some (.cells x.cells t (0, 0))) (j : Nat) (u : Value) (hj : x.cells[j]? = some u) : w.cell? ⟨b, j, none⟩ = some u := by rw [cell_of_row w b j _ _ (0, 0) h]; exact hj
end Go.Proofs.Ytgnedaihchmoaaa
