/-
  The walk of firthlaw01.NumReads.
-/
import Derived.Test.YtejanmmhidlhjaaNumReadAll
import Derived.OpenShut
namespace Go.Proofs.Ytejanmmhidlhjaa
open Go.RowKit
set_option linter.unusedVariables false

set_option maxHeartbeats 400000 in
set_option maxRecDepth 100000 in
theorem numReads_walk (a0 : Option Addr) (len0 cap0 : Nat) (l0 : List UInt8) (a1 : Int) (w : World) (s0 : SlB w a0 len0 l0) (b0 : len0 ≤ cap0) (z0 : cap0 * 1 ≤ 140737488351232) (w1 : (Lit.int .i64 a1).wf = true) :
    Calls Try.prog 4 #[.slice a0 len0 cap0, .int .i64 a1] w fun e w' => e = .returned (.bool true) ∧ Below w.heap.size w w' := by
  by_cases h : a1 < 0 ∨ (len0 : Int) < a1
  · rcases (show a1 < 0 ∨ (0 ≤ a1 ∧ (len0 : Int) < a1) by omega) with h1 | ⟨h1, h2⟩
    all_goals
      have C := Lib.hid (num_out a0 len0 cap0 a1 w h)
      clear h
      go_enter Try.func4, Try.ntmps4
      go_wp2_with fail
      refine C.out.mono ?_
      rintro e w' ⟨rfl, rfl⟩
      go_wp2
      go_ret
      exact ⟨rfl, Below.refl _ _⟩
  · obtain ⟨at_, rfl⟩ := Int.eq_ofNat_of_zero_le (show 0 ≤ a1 by omega)
    have hat : at_ ≤ len0 := by omega
    have hc : cap0 ≤ 140737488351232 := by omega
    clear h w1
    rcases hr : rdNum (l0.drop at_) with x | ⟨m, k⟩
    · have C1 := Lib.hid (num_err s0 b0 hc hat hr)
      have C2 := Lib.hid (refNum_err s0 b0 hc hat hr)
      clear hr
      go_enter Try.func4, Try.ntmps4
      go_wp2_with fail
      refine C1.out.mono ?_
      rintro e w' ⟨rfl, rfl⟩
      go_wp2_with fail
      refine C2.out.mono ?_
      rintro e w' ⟨rfl, rfl⟩
      go_wp2
      go_ret
      exact ⟨by simp, Below.refl _ _⟩
    · have C1 := Lib.hid (num_ok s0 b0 hc hat hr)
      have C2 := Lib.hid (refNum_ok s0 b0 hc hat hr)
      clear hr
      go_enter Try.func4, Try.ntmps4
      go_wp2_with fail
      refine C1.out.mono ?_
      rintro e w' ⟨rfl, rfl⟩
      go_wp2_with fail
      refine C2.out.mono ?_
      rintro e w' ⟨rfl, rfl⟩
      go_wp2
      go_ret
      exact ⟨by simp, Below.refl _ _⟩
end Go.Proofs.Ytejanmmhidlhjaa
