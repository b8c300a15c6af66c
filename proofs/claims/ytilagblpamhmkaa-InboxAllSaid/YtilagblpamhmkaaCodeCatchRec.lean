/-
  The deferred closure of firth/code.whole at a record.
-/
import Derived.Test.YtilagblpamhmkaaCodeWhole
import Derived.Test.YtilagblpamhmkaaMG
namespace Go.Proofs.Ytilagblpamhmkaa
open Go.RowKit
set_option linter.unusedVariables false

theorem catchR_idle (p q : Addr) (w : World) :
    CallsD Try.prog 74 #[.pointer (some p), .pointer (some q)] .returning w fun e u' w' => e = .returned (.tuple #[]) ∧ u' = .returning ∧ w' = w := by
  refine callsD_of_wpS Try.func74 rfl fun c₀ cs hu => ?_
  apply wpS_seq
  apply wpS_region
  simp [wpOpsS, go_sem, recoverD, hu, Try.ntmps74, Exit.thenS]
  refine wpS_of_wp ?_
  go_wp2
  cases c₀
  simp_all [bodyPostS, results, Try.results74]
/-- What the closure leaves. -/
def CatchR (g0 g1 : Nat) (w w' : World) : Prop := w'.cell? ⟨g0, 0, none⟩ = some (.string ⟨#[]⟩) ∧ w'.cell? ⟨g0, 1, none⟩ = some (.slice none 0 0) ∧ w'.cell? ⟨g1, 0, none⟩ = some (.int .i64 2) ∧ Fr (fun i => i = g0 ∨ i = g1) w w'
theorem catchR_wrong (g0 g1 : Nat) (x0 x1 y : Value) (t0 t1 : TypeId) (older : List PanicEntry) (w : World) (h0 : w.heap[g0]? = some (.cells #[x0, x1] t0 (0, 0))) (h1 : w.heap[g1]? = some (.cells #[y] t1 (0, 0))) (hne : g0 ≠ g1) :
    CallsD Try.prog 74 #[.pointer (some ⟨g0, 0, none⟩), .pointer (some ⟨g1, 0, none⟩)] (.panicking ({ v := .iface 124 (.agg #[]), recovered := false } :: older)) w fun e u' w' =>
      e = .returned (.tuple #[]) ∧ u' = .panicking ({ v := .iface 124 (.agg #[]), recovered := true } :: older) ∧ CatchR g0 g1 w w' := by
  have c0 := row_cell (j := 0) h0 rfl
  have c1 := row_cell (j := 1) h0 rfl
  have f0 := frozen_of_row w g0 0 _ _ h0
  have f00 := frozen_of_row w g0 1 _ _ h0
  have d1 := cell_of_one h1
  have f1 := free_of_one h1
  have l0 := lt_of_block h0
  have l1 := lt_of_block h1
  have H0 := Lib.hid h0
  have H1 := Lib.hid h1
  clear h0 h1
  have hta : ∀ w : World, (Instr.typeAssert (.iface 124 (.agg #[])) 20 124 true).run Try.prog w = .ok (.tuple #[.agg #[], .bool true]) w := fun _ => by kernel_rfl
  refine callsD_of_wpS Try.func74 rfl fun c₀ cs hu => ?_
  apply wpS_seq
  apply wpS_region
  simp [wpOpsS, go_sem, recoverD, hu, Try.ntmps74, Exit.thenS]
  refine wpS_of_wp ?_
  go_wp2
  refine ⟨rfl, _, rfl, .tuple #[], by simp [results, Try.results74, go_sem], rfl, rfl, ?_⟩
  have a1 := heap_setCell_same _ g0 1 _ _ (.slice none 0 0) (heap_setCell_same w g0 0 _ _ (.string ⟨#[]⟩) H0.out)
  have a2 := (Below.heap_setCell _ ⟨g1, 0, none⟩ (.int .i64 2) g0 hne).trans a1
  have b1 := (Below.heap_setCell _ ⟨g0, 1, none⟩ (.slice none 0 0) g1 hne.symm).trans ((Below.heap_setCell w ⟨g0, 0, none⟩ (.string ⟨#[]⟩) g1 hne.symm).trans H1.out)
  have b2 := one_setCell (u := .int .i64 2) b1
  have a3 := (Below.heap_alloc _ (.cells #[.string ⟨#[]⟩, .slice none 0 0] 32) g0 (by simp; omega)).trans ((Below.heap_alloc _ (.cells #[] 124) g0 (lt_of_block a2)).trans a2)
  have b3 := (Below.heap_alloc _ (.cells #[.string ⟨#[]⟩, .slice none 0 0] 32) g1 (by simp; omega)).trans ((Below.heap_alloc _ (.cells #[] 124) g1 (lt_of_block b2)).trans b2)
  exact ⟨row_cell (j := 0) a3 rfl, row_cell (j := 1) a3 rfl, cell_of_one b3, (((((Fr.refl (fun i => i = g0 ∨ i = g1) w).trans (Fr.set _ ⟨g0, 0, none⟩ _) fun i hi => .inl (.inl hi)).trans (Fr.set _ ⟨g0, 1, none⟩ _) fun i hi => .inl (.inl hi)).trans (Fr.set _ ⟨g1, 0, none⟩ _) fun i hi => .inl (.inr hi)).trans (Fr.alloc (fun _ => False) _ _) fun i hi => hi.elim).trans (Fr.alloc (fun _ => False) _ _) fun i hi => hi.elim⟩

end Go.Proofs.Ytilagblpamhmkaa
