/-
  A region that draws its order and whose callees make memory but answer plain values: one walk, in the text's order, in every world that has grown out of the region's own. No program is looked at here.
-/
import Derived.Test.YtcdbpimpmhfkhaaBase
import Derived.Deep.QuietTactic
import Derived.BigQuiet
namespace Go.Proofs.Ytcdbpimpmhfkhaa
open Go.RowKit

/-- A world that has grown out of W: what lay in W lies there. -/
structure Ext (W : World) where
  w : World
  below : Below W.heap.size W w
instance (W : World) : Nonempty (Ext W) := ⟨⟨W, Below.refl _ _⟩⟩

theorem Ext.cell {W : World} {p : Addr} {v : Value} (h : W.cell? p = some v) (x : Ext W) : x.w.cell? p = some v := (x.below.cell (World.block_lt_of_cell? W _ h)).trans h

theorem wp_region_ext {P : Program} {id : Nat} {Q : Exit → Act → World → Prop} {a : Act} {w : World} {l : List Oper} (hm : P.follows .mixedOrders = true) (hB : Region.lexB .any l.toArray = true)
    (h : wpQuiet P l.toArray (fun w' => ∃ x : Ext w, w' = x.w) (fun a' => ∀ w', (∃ x : Ext w, w' = x.w) → Q .normal a' w') l a) : (Code.region id l.toArray true).wp P Q a w :=
  wp_region_quiet (C := fun w' => ∃ x : Ext w, w' = x.w) hm hB ⟨⟨w.drew, (Below.refl _ _).drew⟩, rfl⟩ (by simpa using h)

theorem Calls.ext_of {P : Program} {f : FuncId} {args : Array Value} {W : World} {x : Ext W} {v : Value}
    (h : Calls P f args x.w fun e w' => e = .returned v ∧ Below x.w.heap.size x.w w') : Calls P f args x.w fun e w' => e = .returned v ∧ ∃ y : Ext W, w' = y.w :=
  h.mono fun _ w' ⟨he, hb⟩ => ⟨he, ⟨w', x.below.trans (hb.mono x.below.size)⟩, rfl⟩
theorem Calls.ext_same {P : Program} {f : FuncId} {args : Array Value} {W : World} {x : Ext W} {v : Value}
    (h : Calls P f args x.w fun e w' => e = .returned v ∧ w' = x.w) : Calls P f args x.w fun e w' => e = .returned v ∧ ∃ y : Ext W, w' = y.w :=
  h.mono fun _ _ ⟨he, hb⟩ => ⟨he, x, hb⟩
theorem Calls.ext_drewN {P : Program} {f : FuncId} {args : Array Value} {W : World} {x : Ext W} {v : Value}
    (h : Calls P f args x.w fun e w' => e = .returned v ∧ ∃ k, w' = x.w.drewN k) : Calls P f args x.w fun e w' => e = .returned v ∧ ∃ y : Ext W, w' = y.w :=
  h.mono fun _ _ ⟨he, k, hb⟩ => ⟨he, ⟨x.w.drewN k, below_drewN x.below k⟩, hb⟩
theorem ext_end {W w1 : World} (h : ∃ x : Ext W, w1 = x.w) : Below W.heap.size W w1 := by
  obtain ⟨x, rfl⟩ := h
  exact x.below
end Go.Proofs.Ytcdbpimpmhfkhaa
