/-
  The walk of firthlaw01.NumOne.
-/
import Derived.Test.YtejanmmhidlhjaaNumReadAll
import Derived.Test.YtejanmmhidlhjaaNumSame
import Derived.Deep.RegionHeld3
import Derived.OpenShut
namespace Go.Proofs.Ytejanmmhidlhjaa
open Go.RowKit
set_option linter.unusedVariables false

theorem rd_zero {l : List UInt8} {x : Int} (h : rdNum l = .error x) : (putNum 0 == l) = false := by
  rw [beq_eq_false_iff_ne]
  intro e
  rw [← e] at h
  have e2 : rdNum (putNum 0) = .ok (0, 1) := by rfl
  rw [e2] at h
  cases h

set_option maxHeartbeats 1000000 in
set_option maxRecDepth 100000 in
theorem numOne_walk (a0 : Option Addr) (len0 cap0 : Nat) (l0 : List UInt8) (w : World) (s0 : SlB w a0 len0 l0) (b0 : len0 ≤ cap0) (z0 : cap0 * 1 ≤ 140737488351232) :
    Calls Try.prog 6 #[.slice a0 len0 cap0] w fun e w' => e = .returned (.bool true) ∧ Below w.heap.size w w' := by
  have hc : cap0 ≤ 140737488351232 := by omega
  have hll := s0.len
  rcases hr : rdNum l0 with x | ⟨m, k⟩
  · have C1 := Lib.hid (num_err (at_ := 0) s0 b0 hc (Nat.zero_le _) hr)
    have hz := rd_zero hr
    have hx : x = 2 ∨ x = 4 := rdN_err _ _ _ _ hr
    clear hr
    have hx0 : ((x : Int) == 0) = false := by rw [beq_eq_false_iff_ne]; omega
    have hx1 : (x != 0) = true := by rw [bne_iff_ne]; omega
    clear hx
    go_enter Try.func6, Try.ntmps6
    go_wp2_with fail
    refine C1.out.mono ?_
    rintro e w' ⟨rfl, rfl⟩
    go_wp2_with fail
    refine (putNum_any 0 _ (by omega)).mono ?_
    intro e w1 h
    obtain ⟨A1, n1, c1, rfl, s1, -, -, b1, -⟩ := h.read
    clear h
    have s0' := s0.below b1
    go_wp2_with fail
    refine (same_any _ _ _ _ _ _ _ _ _ s1 s0').mono ?_
    rintro e w' ⟨rfl, rfl⟩
    go_wp2
    go_ret
    exact ⟨by simp, b1⟩
  · have C1 := Lib.hid (num_ok (at_ := 0) s0 b0 hc (Nat.zero_le _) hr)
    obtain ⟨hk1, hk9, hkl, hm63, htake⟩ := rdNum_ok hr
    have HT := Lib.hid htake
    clear hr htake
    have hmm : (m : Int) ≤ 9223372036854775807 := by omega
    have sk := Sl.take s0 (k := k) (by omega)
    rw [Nat.mul_one, bsV_take, HT.out] at sk
    have g1 : decide ((1 : Int) ≤ (k : Int)) = true := by simp; omega
    have g2 : decide (k ≤ len0) = true := by simp; omega
    have g3 : decide ((0 : Int) ≤ (m : Int)) = true := by simp
    have g4 : (0 : Int) ≤ (k : Int) := by omega
    have g5 : (k : Int) ≤ (cap0 : Int) := by omega
    have g6 : (k : Int) ≤ (len0 : Int) := by omega
    go_enter Try.func6, Try.ntmps6
    go_wp2_with fail
    refine C1.out.mono ?_
    rintro e w' ⟨rfl, rfl⟩
    go_wp2_with fail
    go_region_held3 (fun w' => SlB w' a0 k (putN 8 m) ∧ Below w.heap.size w w')
      (first | exact ⟨sk, (Below.refl _ w).drew⟩ | exact hS1 | assumption)
      (first
        | (go_at_call 11; refine (putNum_any (m : Int) _ hmm).mono ?_; intro e w1 h; obtain ⟨A1, n1, c1, rfl, s1, -, -, b1, -⟩ := h.read; clear h; have hS1 : SlB w1 a0 k (putN 8 m) ∧ Below w.heap.size w w1 := ⟨Sl.below (w := w.drew) sk b1, ((Below.refl _ w).drew).trans b1⟩)
        | (go_at_call 10; refine (same_any _ _ _ _ _ _ _ _ _ s1 hS1.1).mono ?_; rintro e w' ⟨rfl, rfl⟩))
    go_wp2
    go_ret
    exact ⟨by simp [putNum], hS1.2⟩
end Go.Proofs.Ytejanmmhidlhjaa
