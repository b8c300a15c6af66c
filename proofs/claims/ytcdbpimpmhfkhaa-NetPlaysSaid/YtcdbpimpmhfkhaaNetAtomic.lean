/-
  Counters: sync/atomic.Int64's Add and Load, as the network uses them.
-/
import Derived.Test.YtcdbpimpmhfkhaaNetState
import Derived.Laws.LoneSync
namespace Go.Proofs.Ytcdbpimpmhfkhaa
open Go.RowKit
set_option linter.unusedVariables false

set_option maxHeartbeats 1000000 in
theorem addI_any (p j : Nat) (x : Int) (w : World) (hc : w.cell? ⟨p, j, none⟩ = some (.int .i64 x)) (hz : w.frozen? ⟨p, j, none⟩ = false) (h0 : 0 ≤ x) (h1 : x < 9000000000000000000) :
    Calls Try.prog 25 #[.pointer (some ⟨p, j, none⟩), .int .i64 1] w fun e w' => e = .returned (.int .i64 (x + 1)) ∧ w' = w.setCell ⟨p, j, none⟩ (.int .i64 (x + 1)) := by
  have hw1 : IntKind.i64.wrap (x + 1) = x + 1 := IntWalk.i64_in _ (by omega)
  have hadd := run_call_add (P := Try.prog) Try.func38 (by kernel_rfl) (by kernel_rfl) (by kernel_rfl) .i64 (by kernel_rfl) (y := 1) (s := x + 1) hc hz (by simp [go_sem, hw1])
  go_enter Try.func25, Try.ntmps25
  go_wp2
  go_ret
  exact ⟨rfl, rfl⟩
set_option maxHeartbeats 1000000 in
theorem loadI_any (p j : Nat) (x : Int) (w : World) (hc : w.cell? ⟨p, j, none⟩ = some (.int .i64 x)) :
    Calls Try.prog 29 #[.pointer (some ⟨p, j, none⟩)] w fun e w' => e = .returned (.int .i64 x) ∧ w = w' := by
  have hld := run_call_load (P := Try.prog) Try.func40 (by kernel_rfl) (by kernel_rfl) (by kernel_rfl) .i64 (by kernel_rfl) hc
  go_enter Try.func29, Try.ntmps29
  go_wp2
  go_ret
  exact ⟨rfl, rfl⟩
end Go.Proofs.Ytcdbpimpmhfkhaa
