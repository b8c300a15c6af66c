/-
  firthlaw02.same; the walk of firthlaw02.FramePuts.
-/
import Derived.Test.YtoeeiancbiaajaaFramePut
namespace Go.Proofs.Ytoeeiancbiaajaa
open Go.RowKit
set_option linter.unusedVariables false

set_option maxHeartbeats 400000 in
theorem sameF_any (A1 A2 : Option Addr) (n1 n2 c1 c2 : Nat) (l1 l2 : List UInt8) (w : World) (h1 : SlB w A1 n1 l1) (h2 : SlB w A2 n2 l2) :
    Calls Try.prog 13 #[.slice A1 n1 c1, .slice A2 n2 c2] w fun e w' => e = .returned (.bool (l1 == l2)) ∧ w = w' := by
  have e1 := run_convert_SlB (P := Try.prog) h1 22 5 9 Try.underlying22 Try.underlying5 Try.underlying9 c1
  have e2 := run_convert_SlB (P := Try.prog) h2 22 5 9 Try.underlying22 Try.underlying5 Try.underlying9 c2
  go_enter Try.func13, Try.ntmps13
  go_wp2
  go_ret
  exact ⟨rfl, rfl⟩

set_option maxHeartbeats 1000000 in
set_option maxRecDepth 100000 in
theorem framePuts_walk (a0 : Option Addr) (len0 cap0 : Nat) (l0 : List UInt8) (w : World) (s0 : SlB w a0 len0 l0) (b0 : len0 ≤ cap0) (z0 : cap0 * 1 ≤ 140737488351232) :
    Calls Try.prog 4 #[.slice a0 len0 cap0] w fun e w' => e = .returned (.bool true) ∧ Below w.heap.size w w' := by
  by_cases h : 1048576 < len0
  · have C := Lib.hid (framePut_long a0 len0 cap0 w h (by omega))
    go_enter Try.func4, Try.ntmps4
    go_wp2_with fail
    refine C.out.mono ?_
    rintro e w1 ⟨rfl, rfl⟩
    go_wp2
    go_ret
    exact ⟨rfl, Below.refl _ _⟩
  · have h' : len0 ≤ 1048576 := by omega
    have C := Lib.hid (framePut_any a0 len0 cap0 l0 w s0 h' b0)
    go_enter Try.func4, Try.ntmps4
    go_wp2_with fail
    refine C.out.mono ?_
    rintro e w1 ⟨A1, n1, c1, rfl, s1, m1, -, b1⟩
    have z1 := b1.size
    have S0 := Sl.below s0 b1
    clear C
    go_wp2_with fail
    refine (refPutF_any a0 len0 cap0 l0 w1 S0 h').mono ?_
    intro e w2 h2
    obtain ⟨A2, n2, c2, rfl, s2, m2, -, b2, -⟩ := h2.read
    clear h2
    have s1 := Sl.below s1 b2
    go_wp2_with fail
    refine (sameF_any A1 A2 n1 n2 c1 c2 _ _ w2 s1 s2).mono ?_
    rintro e w3 ⟨rfl, rfl⟩
    go_wp2
    go_ret
    exact ⟨by simp, b1.trans (b2.mono z1)⟩
end Go.Proofs.Ytoeeiancbiaajaa
