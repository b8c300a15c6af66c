/-
  The walk of firthlaw01.NumTexts.
-/
import Derived.Test.YtejanmmhidlhjaaNumText
namespace Go.Proofs.Ytejanmmhidlhjaa
open Go.RowKit
set_option linter.unusedVariables false

set_option maxHeartbeats 400000 in
set_option maxRecDepth 100000 in
theorem text_out (A : Option Addr) (n c : Nat) (a most : Int) (w : World) (h : a < 0 ∨ (n : Int) < a) :
    Calls Try.prog 17 #[.slice A n c, .int .i64 a, .int .i64 most] w fun e w' => e = .returned (.tuple #[.string ByteArray.empty, .int .i64 0, .int .i64 1]) ∧ w = w' := by
  have C := Lib.hid (num_out A n c a w h)
  clear h
  go_enter Try.func17, Try.ntmps17
  go_wp2_with fail
  refine C.out.mono ?_
  rintro e w' ⟨rfl, rfl⟩
  go_wp2
  go_ret3
  exact ⟨rfl, rfl⟩

set_option maxHeartbeats 400000 in
set_option maxRecDepth 100000 in
theorem numTexts_walk (a0 : Option Addr) (len0 cap0 : Nat) (l0 : List UInt8) (a1 a2 : Int) (w : World) (s0 : SlB w a0 len0 l0) (b0 : len0 ≤ cap0) (z0 : cap0 * 1 ≤ 140737488351232) (w1 : (Lit.int .i64 a1).wf = true) (w2 : (Lit.int .i64 a2).wf = true) :
    Calls Try.prog 7 #[.slice a0 len0 cap0, .int .i64 a1, .int .i64 a2] w fun e w' => e = .returned (.bool true) ∧ Below w.heap.size w w' := by
  by_cases h : a1 < 0 ∨ (len0 : Int) < a1
  · rcases (show a1 < 0 ∨ (0 ≤ a1 ∧ (len0 : Int) < a1) by omega) with h1 | ⟨h1, h2⟩
    all_goals
      have C := Lib.hid (text_out a0 len0 cap0 a1 a2 w h)
      clear h
      go_enter Try.func7, Try.ntmps7
      go_wp2_with fail
      refine C.out.mono ?_
      rintro e w' ⟨rfl, rfl⟩
      go_wp2
      go_ret
      exact ⟨rfl, Below.refl _ _⟩
  · obtain ⟨at_, rfl⟩ := Int.eq_ofNat_of_zero_le (show 0 ≤ a1 by omega)
    have hat : at_ ≤ len0 := by omega
    have hc : cap0 ≤ 140737488351232 := by omega
    have hb := bounds_i64 w2
    have C1 := text_any a0 len0 cap0 at_ a2 l0 w s0 b0 hc hat hb.2
    have C2 := refText_any a0 len0 cap0 at_ a2 l0 w s0 b0 hc hat hb.2
    generalize textOf l0 at_ a2 = t at C1 C2
    obtain ⟨t1, t2, t3⟩ := t
    have D1 := Lib.hid C1
    have D2 := Lib.hid C2
    clear h w1 w2 hb C1 C2
    go_enter Try.func7, Try.ntmps7
    go_wp2_with fail
    refine D1.out.mono ?_
    rintro e w' ⟨rfl, rfl⟩
    simp only [textVal]
    go_wp2_with fail
    refine D2.out.mono ?_
    rintro e w' ⟨rfl, rfl⟩
    simp only [textVal]
    go_wp2
    go_ret
    exact ⟨by simp, Below.refl _ _⟩
end Go.Proofs.Ytejanmmhidlhjaa
