/-
  'x[i]++' over bytes of the call's own. No program is looked at here.
-/
import Derived.Test.YtgnedaihchmoaaaMA
namespace Go.Proofs.Ytgnedaihchmoaaa
open Go.RowKit
set_option linter.unusedVariables false
theorem inc_byte (c : Nat) (hc : c < 256) : ∃ y : UInt8, Value.int .u8 (IntKind.u8.wrap ((c : Int) + 1)) = bV y := by
  refine ⟨UInt8.ofNat ((c + 1) % 256), ?_⟩
  unfold bV
  rw [UInt8.toNat_ofNat', Nat.mod_mod_of_dvd _ (by decide)]
  congr 1
theorem bsV_set (l : List UInt8) (k : Nat) (y : UInt8) : (bsV l).set k (bV y) = bsV (l.set k y) := by unfold bsV; rw [List.map_set]
end Go.Proofs.Ytgnedaihchmoaaa
