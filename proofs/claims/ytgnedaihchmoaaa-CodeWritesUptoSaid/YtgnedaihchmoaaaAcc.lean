/-
  Bytes that are being gathered in a row of the call's own. No program is looked at here, but for the element's number.
-/
import Derived.Test.YtgnedaihchmoaaaMB
namespace Go.Proofs.Ytgnedaihchmoaaa
open Go.RowKit
set_option linter.unusedVariables false

/-- Bytes that are being gathered in a row of the call's own. -/
structure Acc (w0 w : World) (A : Option Addr) (m c : Nat) (L : List UInt8) : Prop where
  own : w.ownsRow w0.heap.size 5 1 (.slice A m c) m (bsV L)
  below : Below w0.heap.size w0 w
section
variable {w0 w w' : World} {A A' : Option Addr} {m c n c' : Nat} {L l : List UInt8}
theorem Acc.len (h : Acc w0 w A m c L) : L.length = m := by have := h.own.1; rw [bsV_length] at this; omega
theorem Acc.move (h : Acc w0 w A m c L) (b : Below w.heap.size w w') : Acc w0 w' A m c L := ⟨own_below h.own b, h.below.trans (b.mono h.below.size)⟩
theorem Acc.push (h : Acc w0 w A m c L) (own : w'.ownsRow w0.heap.size 5 1 (.slice A' (m + n) c') (m + n) (bsV L ++ bsV l)) (g : w.grownBy w' (Value.slice A m c).ownBlock) : Acc w0 w' A' (m + n) c' (L ++ l) :=
  ⟨by rw [bsV_append]; exact own, below_grow h.below h.own g h.below.size (Nat.le_refl _)⟩
theorem Acc.first (b : Below w0.heap.size w0 w) (own : w'.ownsRow w0.heap.size 5 1 (.slice A' n c') n (bsV l)) (g : w.grownBy w' (Value.slice none 0 0).ownBlock) : Acc w0 w' A' n c' l :=
  ⟨own, b.grown g b.size (fun q hq => by simp [Value.ownBlock] at hq)⟩
end
end Go.Proofs.Ytgnedaihchmoaaa
