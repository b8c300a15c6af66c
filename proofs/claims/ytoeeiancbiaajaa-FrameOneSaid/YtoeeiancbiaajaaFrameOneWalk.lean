/-
  The walk of firthlaw02.FrameOne.
-/
import Derived.Test.YtoeeiancbiaajaaFrameNext
namespace Go.Proofs.Ytoeeiancbiaajaa
open Go.RowKit
set_option linter.unusedVariables false

set_option maxHeartbeats 1000000 in
set_option maxRecDepth 100000 in
theorem frameOne_walk (a0 : Option Addr) (len0 cap0 : Nat) (l0 : List UInt8) (w : World) (s0 : SlB w a0 len0 l0) (b0 : len0 ≤ cap0) (z0 : cap0 * 1 ≤ 140737488351232) :
    Calls Try.prog 6 #[.slice a0 len0 cap0] w fun e w' => e = .returned (.bool true) ∧ Below w.heap.size w w' := by
  have C1 : Calls Try.prog 15 #[.slice a0 len0 cap0, .int .i64 0] w (NextAns w (nextF l0 0)) := frameNext_any a0 len0 cap0 0 l0 w s0 b0 (by omega) (by omega)
  have hl0 := s0.len
  cases hr : nextF l0 0 with
  | error x =>
    rw [hr] at C1
    have hx : ((x : Int) != 0) = true := by
      unfold nextF at hr
      split at hr
      · rename_i y hy
        have := rdN_err _ _ _ _ hy
        injection hr with hr
        subst hr
        rw [bne_iff_ne]; omega
      · split at hr
        · injection hr with hr; subst hr; rfl
        · split at hr
          · injection hr with hr; subst hr; rfl
          · split at hr
            · cases hr
            · injection hr with hr; subst hr; rfl
    have D1 := Lib.hid C1
    clear C1 hr
    go_enter Try.func6, Try.ntmps6
    go_wp2_with fail
    refine D1.out.mono ?_
    rintro e w1 ⟨rfl, b1⟩
    go_wp2
    go_ret
    exact ⟨rfl, b1⟩
  | ok r =>
    obtain ⟨b, en⟩ := r
    obtain ⟨h1, h2, h3, h4⟩ := nextF_ok hr
    have hpl := putNum_len (b.length : Int)
    have hF := putF_len b
    rw [hr] at C1
    have D1 := Lib.hid C1
    have he4 : 4 < en := by omega
    have hel : en ≤ len0 := by omega
    have H4 := Lib.hid (show l0.take en = putF b by
      rw [Nat.zero_add] at h3
      rw [h3]
      simpa using h4)
    have q1 : decide ((en : Int) > 4) = true := by simp; omega
    have q2 : decide ((en : Int) ≤ (len0 : Int)) = true := by simp; omega
    clear C1 hr h2 h3 h4 hF
    go_enter Try.func6, Try.ntmps6
    go_wp2_with fail
    refine D1.out.mono ?_
    rintro e w1 ⟨A1, n1, c1, rfl, s1, m1, -, b1⟩
    have z1 := b1.size
    have e1 := s1.len
    subst e1
    go_wp2_with fail
    refine (framePut_any A1 b.length c1 b w1 s1 h1 m1).mono ?_
    rintro e w2 ⟨A2, n2, c2, rfl, s2, m2, -, b2⟩
    have S0 := Sl.below (Sl.below s0 b1) b2
    have S0' : SlB w2 a0 en (putF b) := by
      have := Sl.take S0 hel
      rw [Nat.mul_one, bsV_take, H4.out] at this
      exact this
    go_wp2_with fail
    refine (sameF_any A2 a0 n2 en c2 _ _ _ w2 s2 S0').mono ?_
    rintro e w3 ⟨rfl, rfl⟩
    go_wp2
    go_ret
    exact ⟨by simp, b1.trans (b2.mono z1)⟩
end Go.Proofs.Ytoeeiancbiaajaa
