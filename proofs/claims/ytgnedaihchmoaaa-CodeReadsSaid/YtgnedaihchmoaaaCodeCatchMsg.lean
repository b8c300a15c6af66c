/-
  The deferred closure of firth/code.whole at a message. (Printed by tools/wholemsg.py.)
-/
import Derived.Test.YtgnedaihchmoaaaCodeWhole
import Derived.Test.YtgnedaihchmoaaaMF
namespace Go.Proofs.Ytgnedaihchmoaaa
open Go.RowKit
set_option linter.unusedVariables false

theorem catchM_idle (p q : Addr) (w : World) :
    CallsD Try.prog 94 #[.pointer (some p), .pointer (some q)] .returning w fun e u' w' => e = .returned (.tuple #[]) ∧ u' = .returning ∧ w' = w := by
  refine callsD_of_wpS Try.func94 rfl fun c₀ cs hu => ?_
  apply wpS_seq
  apply wpS_region
  simp [wpOpsS, go_sem, recoverD, hu, Try.ntmps94, Exit.thenS]
  refine wpS_of_wp ?_
  go_wp2
  cases c₀
  simp_all [bodyPostS, results, Try.results94]
/-- What the closure leaves. -/
def CatchM (g0 g1 : Nat) (w w' : World) : Prop := MBox w' g0 (.int .i64 0) (.int .i64 0) (.int .i64 0) (.int .i64 0) (.int .i64 0) (.int .i64 0) (.int .i64 0) (.int .i64 0) (.int .i64 0) (.string ⟨#[]⟩) (.slice none 0 0) (.slice none 0 0) (.slice none 0 0) (.slice none 0 0) (.slice none 0 0) ∧ w'.cell? ⟨g1, 0, none⟩ = some (.int .i64 2) ∧ Fr (fun i => i = g0 ∨ i = g1) w w'
set_option maxHeartbeats 2000000 in
set_option maxRecDepth 100000 in
theorem catchM_wrong (g0 g1 : Nat) (v0 v1 v2 v3 v4 v5 v6 v7 v8 v9 v10 v11 v12 v13 v14 y : Value) (t1 : TypeId) (older : List PanicEntry) (w : World) (h0 : MBox w g0 v0 v1 v2 v3 v4 v5 v6 v7 v8 v9 v10 v11 v12 v13 v14) (h1 : w.heap[g1]? = some (.cells #[y] t1 (0, 0))) (hne : g0 ≠ g1) :
    CallsD Try.prog 94 #[.pointer (some ⟨g0, 0, none⟩), .pointer (some ⟨g1, 0, none⟩)] (.panicking ({ v := .iface 146 (.agg #[]), recovered := false } :: older)) w fun e u' w' =>
      e = .returned (.tuple #[]) ∧ u' = .panicking ({ v := .iface 146 (.agg #[]), recovered := true } :: older) ∧ CatchM g0 g1 w w' := by
  have x0 := mcell (j := 0) h0 rfl
  have x1 := mcell (j := 1) h0 rfl
  have x2 := mcell (j := 2) h0 rfl
  have x3 := mcell (j := 3) h0 rfl
  have x4 := mcell (j := 4) h0 rfl
  have x5 := mcell (j := 5) h0 rfl
  have x6 := mcell (j := 6) h0 rfl
  have x7 := mcell (j := 7) h0 rfl
  have x8 := mcell (j := 8) h0 rfl
  have x9 := mcell (j := 9) h0 rfl
  have x10 := mcell (j := 10) h0 rfl
  have x11 := mcell (j := 11) h0 rfl
  have x12 := mcell (j := 12) h0 rfl
  have x13 := mcell (j := 13) h0 rfl
  have x14 := mcell (j := 14) h0 rfl
  have z0 := frozen_of_row w _ 0 _ _ h0
  have z1 := frozen_of_row w _ 1 _ _ h0
  have z2 := frozen_of_row w _ 2 _ _ h0
  have z3 := frozen_of_row w _ 3 _ _ h0
  have z4 := frozen_of_row w _ 4 _ _ h0
  have z5 := frozen_of_row w _ 5 _ _ h0
  have z6 := frozen_of_row w _ 6 _ _ h0
  have z7 := frozen_of_row w _ 7 _ _ h0
  have z8 := frozen_of_row w _ 8 _ _ h0
  have z9 := frozen_of_row w _ 9 _ _ h0
  have z10 := frozen_of_row w _ 10 _ _ h0
  have z11 := frozen_of_row w _ 11 _ _ h0
  have z12 := frozen_of_row w _ 12 _ _ h0
  have z13 := frozen_of_row w _ 13 _ _ h0
  have z14 := frozen_of_row w _ 14 _ _ h0
  have d1 := cell_of_one h1
  have f1 := free_of_one h1
  have l0 := lt_of_block h0
  have l1 := lt_of_block h1
  have H0 := Lib.hid h0
  have H1 := Lib.hid h1
  clear h0 h1
  have hta : ∀ w : World, (Instr.typeAssert (.iface 146 (.agg #[])) 20 146 true).run Try.prog w = .ok (.tuple #[.agg #[], .bool true]) w := fun _ => by kernel_rfl
  refine callsD_of_wpS Try.func94 rfl fun c₀ cs hu => ?_
  apply wpS_seq
  apply wpS_region
  simp [wpOpsS, go_sem, recoverD, hu, Try.ntmps94, Exit.thenS]
  refine wpS_of_wp ?_
  go_wp2
  refine ⟨rfl, _, rfl, .tuple #[], by simp [results, Try.results94, go_sem], rfl, rfl, ?_⟩
  have a1 : MBox (((((((((((((((w.setCell ⟨g0, 0, none⟩ (.int .i64 0)).setCell ⟨g0, 1, none⟩ (.int .i64 0)).setCell ⟨g0, 2, none⟩ (.int .i64 0)).setCell ⟨g0, 3, none⟩ (.int .i64 0)).setCell ⟨g0, 4, none⟩ (.int .i64 0)).setCell ⟨g0, 5, none⟩ (.int .i64 0)).setCell ⟨g0, 6, none⟩ (.int .i64 0)).setCell ⟨g0, 7, none⟩ (.int .i64 0)).setCell ⟨g0, 8, none⟩ (.int .i64 0)).setCell ⟨g0, 9, none⟩ (.string ⟨#[]⟩)).setCell ⟨g0, 10, none⟩ (.slice none 0 0)).setCell ⟨g0, 11, none⟩ (.slice none 0 0)).setCell ⟨g0, 12, none⟩ (.slice none 0 0)).setCell ⟨g0, 13, none⟩ (.slice none 0 0)).setCell ⟨g0, 14, none⟩ (.slice none 0 0)) g0 (.int .i64 0) (.int .i64 0) (.int .i64 0) (.int .i64 0) (.int .i64 0) (.int .i64 0) (.int .i64 0) (.int .i64 0) (.int .i64 0) (.string ⟨#[]⟩) (.slice none 0 0) (.slice none 0 0) (.slice none 0 0) (.slice none 0 0) (.slice none 0 0) := (MBox.set14 (MBox.set13 (MBox.set12 (MBox.set11 (MBox.set10 (MBox.set9 (MBox.set8 (MBox.set7 (MBox.set6 (MBox.set5 (MBox.set4 (MBox.set3 (MBox.set2 (MBox.set1 (MBox.set0 H0.out (.int .i64 0)) (.int .i64 0)) (.int .i64 0)) (.int .i64 0)) (.int .i64 0)) (.int .i64 0)) (.int .i64 0)) (.int .i64 0)) (.int .i64 0)) (.string ⟨#[]⟩)) (.slice none 0 0)) (.slice none 0 0)) (.slice none 0 0)) (.slice none 0 0)) (.slice none 0 0))
  have a2 := (Below.heap_setCell _ ⟨g1, 0, none⟩ (.int .i64 2) g0 hne).trans a1
  have b1 : (((((((((((((((w.setCell ⟨g0, 0, none⟩ (.int .i64 0)).setCell ⟨g0, 1, none⟩ (.int .i64 0)).setCell ⟨g0, 2, none⟩ (.int .i64 0)).setCell ⟨g0, 3, none⟩ (.int .i64 0)).setCell ⟨g0, 4, none⟩ (.int .i64 0)).setCell ⟨g0, 5, none⟩ (.int .i64 0)).setCell ⟨g0, 6, none⟩ (.int .i64 0)).setCell ⟨g0, 7, none⟩ (.int .i64 0)).setCell ⟨g0, 8, none⟩ (.int .i64 0)).setCell ⟨g0, 9, none⟩ (.string ⟨#[]⟩)).setCell ⟨g0, 10, none⟩ (.slice none 0 0)).setCell ⟨g0, 11, none⟩ (.slice none 0 0)).setCell ⟨g0, 12, none⟩ (.slice none 0 0)).setCell ⟨g0, 13, none⟩ (.slice none 0 0)).setCell ⟨g0, 14, none⟩ (.slice none 0 0)).heap[g1]? = some (.cells #[y] t1 (0, 0)) := (Fr.block ((((((((((((((((Fr.refl (fun i => i = g0) w).more (b := g0) (j := 0) rfl (.int .i64 0)).more (b := g0) (j := 1) rfl (.int .i64 0)).more (b := g0) (j := 2) rfl (.int .i64 0)).more (b := g0) (j := 3) rfl (.int .i64 0)).more (b := g0) (j := 4) rfl (.int .i64 0)).more (b := g0) (j := 5) rfl (.int .i64 0)).more (b := g0) (j := 6) rfl (.int .i64 0)).more (b := g0) (j := 7) rfl (.int .i64 0)).more (b := g0) (j := 8) rfl (.int .i64 0)).more (b := g0) (j := 9) rfl (.string ⟨#[]⟩)).more (b := g0) (j := 10) rfl (.slice none 0 0)).more (b := g0) (j := 11) rfl (.slice none 0 0)).more (b := g0) (j := 12) rfl (.slice none 0 0)).more (b := g0) (j := 13) rfl (.slice none 0 0)).more (b := g0) (j := 14) rfl (.slice none 0 0)) g1 l1 (fun e => hne e.symm)).trans H1.out
  have b2 := one_setCell (u := .int .i64 2) b1
  have a3 := (Below.heap_alloc _ (.cells #[.int .i64 0, .int .i64 0, .int .i64 0, .int .i64 0, .int .i64 0, .int .i64 0, .int .i64 0, .int .i64 0, .int .i64 0, .string ⟨#[]⟩, .slice none 0 0, .slice none 0 0, .slice none 0 0, .slice none 0 0, .slice none 0 0] 30) g0 (by simp; omega)).trans ((Below.heap_alloc _ (.cells #[] 146) g0 (lt_of_block a2)).trans a2)
  have b3 := (Below.heap_alloc _ (.cells #[.int .i64 0, .int .i64 0, .int .i64 0, .int .i64 0, .int .i64 0, .int .i64 0, .int .i64 0, .int .i64 0, .int .i64 0, .string ⟨#[]⟩, .slice none 0 0, .slice none 0 0, .slice none 0 0, .slice none 0 0, .slice none 0 0] 30) g1 (by simp; omega)).trans ((Below.heap_alloc _ (.cells #[] 146) g1 (lt_of_block b2)).trans b2)
  exact ⟨a3, cell_of_one b3, ((((((((((((((((((Fr.refl (fun i => i = g0 ∨ i = g1) w).more (b := g0) (j := 0) (.inl rfl) (.int .i64 0)).more (b := g0) (j := 1) (.inl rfl) (.int .i64 0)).more (b := g0) (j := 2) (.inl rfl) (.int .i64 0)).more (b := g0) (j := 3) (.inl rfl) (.int .i64 0)).more (b := g0) (j := 4) (.inl rfl) (.int .i64 0)).more (b := g0) (j := 5) (.inl rfl) (.int .i64 0)).more (b := g0) (j := 6) (.inl rfl) (.int .i64 0)).more (b := g0) (j := 7) (.inl rfl) (.int .i64 0)).more (b := g0) (j := 8) (.inl rfl) (.int .i64 0)).more (b := g0) (j := 9) (.inl rfl) (.string ⟨#[]⟩)).more (b := g0) (j := 10) (.inl rfl) (.slice none 0 0)).more (b := g0) (j := 11) (.inl rfl) (.slice none 0 0)).more (b := g0) (j := 12) (.inl rfl) (.slice none 0 0)).more (b := g0) (j := 13) (.inl rfl) (.slice none 0 0)).more (b := g0) (j := 14) (.inl rfl) (.slice none 0 0)).more (b := g1) (j := 0) (.inr rfl) (.int .i64 2)).trans (Fr.alloc (fun _ => False) _ _) fun i hi => hi.elim).trans (Fr.alloc (fun _ => False) _ _) fun i hi => hi.elim⟩
end Go.Proofs.Ytgnedaihchmoaaa
