/-
  The walk of firthlaw01.NumBack.
-/
import Derived.Test.YtejanmmhidlhjaaNumReadAll
import Derived.OpenShut
namespace Go.Proofs.Ytejanmmhidlhjaa
open Go.RowKit
set_option linter.unusedVariables false

set_option maxHeartbeats 1000000 in
set_option maxRecDepth 100000 in
theorem numBack_walk (a0 : Int) (a1 : Option Addr) (len1 cap1 : Nat) (l1 : List UInt8) (a2 : Option Addr) (len2 cap2 : Nat) (l2 : List UInt8) (w : World) (w0 : (Lit.int .i64 a0).wf = true)
    (s1 : SlB w a1 len1 l1) (b1 : len1 ≤ cap1) (z1 : cap1 * 1 ≤ 140737488351232) (s2 : SlB w a2 len2 l2) (b2 : len2 ≤ cap2) (z2 : cap2 * 1 ≤ 140737488351232) (hsum : cap1 + cap2 ≤ 1048576) :
    Calls Try.prog 5 #[.int .i64 a0, .slice a1 len1 cap1, .slice a2 len2 cap2] w fun e w' => e = .returned (.bool true) ∧ Below w.heap.size w w' := by
  obtain ⟨i0, hi, hz0, hz1, hz2⟩ := info_parts Try.infoU8
  have hb := bounds_i64 w0
  by_cases hneg : a0 < 0
  · go_enter Try.func5, Try.ntmps5
    go_wp2
    go_ret
    exact ⟨rfl, Below.refl _ _⟩
  · obtain ⟨N, rfl⟩ := Int.eq_ofNat_of_zero_le (show 0 ≤ a0 by omega)
    have hN : N < 9223372036854775808 := by omega
    have HR := Lib.hid (rdNum_putNum N hN l2)
    have hpl := putNum_len (N : Int)
    have hl1 := s1.len
    have hl2 := s2.len
    go_enter Try.func5, Try.ntmps5
    go_wp2_with fail
    refine (putNum_any (N : Int) _ hb.2).mono ?_
    intro e w1 h
    obtain ⟨A1, n1, c1, rfl, p1, -, -, q1, own1⟩ := h.read
    clear h w0 hb hN
    have hp1 := p1.len
    have z1' := q1.size
    go_wp2_with (at_builtin; refine wpList_append_sl _ rfl (.tmp 16) (.tmp 17) 23 rfl (w1.heap.size) 5 i0 (.int .u8 0) 1 1 Try.underlying23 hi hz0 hz1 hz2 rfl (by decide) (.slice none 0 0) (0) ([]) rfl (World.ownsRow_nil _ _ _ _) (a1) (len1) (cap1) (bsV l1) rfl (Sl.below s1 q1) (bsV_one _) (by unfold maxLen; omega) (by omega) (Nat.le_refl _) ?_)
    intro v2 w2 own2 g2 _
    have q2 : Below w1.heap.size w1 w2 := below_grow (Below.refl _ _) (World.ownsRow_nil _ w1.heap.size 5 1) g2 (Nat.le_refl _) (Nat.le_refl _)
    have z2' := q2.size
    clear g2
    go_wp2_with (at_builtin; refine wpList_append_sl _ rfl (.tmp 19) (.tmp 20) 23 rfl (w1.heap.size) 5 i0 (.int .u8 0) 1 1 Try.underlying23 hi hz0 hz1 hz2 rfl (by decide) (v2) (len1) (bsV l1) rfl (own2) (A1) (n1) (c1) (bsV (putNum N)) rfl (Sl.below p1 q2) (bsV_one _) (by unfold maxLen; omega) (by omega) (z2') ?_)
    intro v3 w3 own3 g3 _
    have q3 : Below w1.heap.size w1 w3 := below_grow q2 own2 g3 z2' (Nat.le_refl _)
    have z3' := q3.size
    clear g3 own2
    go_wp2_with (at_builtin; refine wpList_append_sl _ rfl (.tmp 22) (.tmp 23) 23 rfl (w1.heap.size) 5 i0 (.int .u8 0) 1 1 Try.underlying23 hi hz0 hz1 hz2 rfl (by decide) (v3) (len1 + n1) (bsV l1 ++ bsV (putNum N)) rfl (own3) (a2) (len2) (cap2) (bsV l2) rfl (Sl.below s2 (q1.trans (q3.mono z1'))) (bsV_one _) (by unfold maxLen; omega) (by omega) (z3') ?_)
    intro v4 w4 own4 g4 _
    have q4 : Below w1.heap.size w1 w4 := below_grow q3 own3 g4 z3' (Nat.le_refl _)
    clear g4 own3
    obtain ⟨A4, c4, rfl, hc4, hm4⟩ := own_slice own4
    have S4 : SlB w4 A4 (len1 + n1 + len2) (l1 ++ putNum N ++ l2) := by
      have := Sl.of_own own4
      unfold SlB
      rw [bsV_append, bsV_append, List.append_assoc]
      exact this
    have HD : rdNum ((l1 ++ putNum N ++ l2).drop len1) = .ok (N, (putN 8 N).length) := by
      rw [List.append_assoc, List.drop_left' hl1]
      exact HR.out
    rw [show (putN 8 N).length = n1 by rw [← hp1]; simp [putNum]] at HD
    have hn1 : 1 ≤ n1 ∧ n1 ≤ 9 := by omega
    obtain ⟨hn1a, hn1b⟩ := hn1
    have C := Lib.hid (num_ok (w := w4) (at_ := len1) S4 hc4 (by omega) (by omega) HD)
    have zf := q1.trans (q4.mono z1')
    clear hp1 hpl HD
    go_wp2_with fail
    refine C.out.mono ?_
    rintro e w' ⟨rfl, rfl⟩
    go_wp2
    go_ret
    exact ⟨by simp; omega, zf⟩
end Go.Proofs.Ytejanmmhidlhjaa
