/-
  The walk of firthlaw02.FrameSums.
-/
import Derived.Test.YtoeeiancbiaajaaFrameSum
import Derived.Test.YtoeeiancbiaajaaNumPut
namespace Go.Proofs.Ytoeeiancbiaajaa
open Go.RowKit
set_option linter.unusedVariables false

theorem sumB_nil : sumB [] = 0 := by decide

set_option maxHeartbeats 1000000 in
set_option maxRecDepth 100000 in
theorem frameSums_walk (a0 : Option Addr) (len0 cap0 : Nat) (l0 : List UInt8) (a1 : Option Addr) (len1 cap1 : Nat) (l1 : List UInt8) (a2 : Option Addr) (len2 cap2 : Nat) (l2 : List UInt8) (w : World)
    (s0 : SlB w a0 len0 l0) (b0 : len0 ≤ cap0) (z0 : cap0 * 1 ≤ 140737488351232) (s1 : SlB w a1 len1 l1) (b1 : len1 ≤ cap1) (z1 : cap1 * 1 ≤ 140737488351232) (s2 : SlB w a2 len2 l2) (b2 : len2 ≤ cap2) (z2 : cap2 * 1 ≤ 140737488351232) (hsum : cap0 + cap1 + cap2 ≤ 1048576) :
    Calls Try.prog 3 #[.slice a0 len0 cap0, .slice a1 len1 cap1, .slice a2 len2 cap2] w fun e w' => e = .returned (.bool true) ∧ Below w.heap.size w w' := by
  obtain ⟨i0, hi, hz0, hz1, hz2⟩ := info_parts Try.infoU8
  have e0 := s0.len
  have e1 := s1.len
  have e2 := s2.len
  go_enter Try.func3, Try.ntmps3
  go_wp2_with (at_builtin; refine wpList_append_sl _ rfl (.tmp 9) (.tmp 10) 22 rfl (w.heap.size) 5 i0 (.int .u8 0) 1 1 Try.underlying22 hi hz0 hz1 hz2 rfl (by decide) (.slice none 0 0) (0) ([]) rfl (World.ownsRow_nil _ _ _ _) (a0) (len0) (cap0) (bsV l0) rfl (s0) (bsV_one _) (by unfold maxLen; omega) (by omega) (Nat.le_refl _) ?_)
  intro v2 w2 own2 g2 _
  have q2 : Below w.heap.size w w2 := below_grow (Below.refl _ _) (World.ownsRow_nil _ w.heap.size 5 1) g2 (Nat.le_refl _) (Nat.le_refl _)
  have y2 := q2.size
  clear g2
  go_wp2_with (at_builtin; refine wpList_append_sl _ rfl (.tmp 12) (.tmp 13) 22 rfl (w.heap.size) 5 i0 (.int .u8 0) 1 1 Try.underlying22 hi hz0 hz1 hz2 rfl (by decide) (v2) (len0) (bsV l0) rfl (own2) (a1) (len1) (cap1) (bsV l1) rfl (Sl.below s1 q2) (bsV_one _) (by unfold maxLen; omega) (by omega) (y2) ?_)
  intro v3 w3 own3 g3 _
  have q3 : Below w.heap.size w w3 := below_grow q2 own2 g3 y2 (Nat.le_refl _)
  have y3 := q3.size
  clear g3 own2 q2
  go_wp2_with (at_builtin; refine wpList_append_sl _ rfl (.tmp 15) (.tmp 16) 22 rfl (w.heap.size) 5 i0 (.int .u8 0) 1 1 Try.underlying22 hi hz0 hz1 hz2 rfl (by decide) (v3) (len0 + len1) (bsV l0 ++ bsV l1) rfl (own3) (a2) (len2) (cap2) (bsV l2) rfl (Sl.below s2 q3) (bsV_one _) (by unfold maxLen; omega) (by omega) (y3) ?_)
  intro v4 w4 own4 g4 _
  have q4 : Below w.heap.size w w4 := below_grow q3 own3 g4 y3 (Nat.le_refl _)
  have y4 := q4.size
  clear g4 own3 q3
  obtain ⟨A4, c4, rfl, hc4, hm4⟩ := own_slice own4
  have S4 : SlB w4 A4 (len0 + len1 + len2) (l0 ++ l1 ++ l2) := by
    have := Sl.of_own own4
    unfold SlB
    rw [bsV_append, bsV_append, List.append_assoc]
    exact this
  have S0 := Sl.below s0 q4
  have S1 := Sl.below s1 q4
  have S2 := Sl.below s2 q4
  obtain ⟨S, hS⟩ : ∃ S : Nat, S = sumB (l0 ++ l1 ++ l2) := ⟨_, rfl⟩
  have D1 := refSum_any A4 (len0 + len1 + len2) c4 _ w4 S4 (by omega)
  rw [← hS] at D1
  have D1 := Lib.hid D1
  have D2 := frameSum_any (some ⟨w4.heap.size, 0, none⟩) 3 3 [l0, l1, l2] (w4.alloc (.cells #[.slice a0 len0 cap0, .slice a1 len1 cap1, .slice a2 len2 cap2] 22)) (SlBB.lit3 _ S0 S1 S2 b0 b1 b2 (by omega) (by omega) (by omega)) (by omega)
  rw [show ([l0, l1, l2] : List (List UInt8)).flatten = l0 ++ l1 ++ l2 by simp, ← hS] at D2
  have D2 := Lib.hid D2
  have q5 := q4.alloc y4 (.cells #[.slice a0 len0 cap0, .slice a1 len1 cap1, .slice a2 len2 cap2] 22)
  have S5 : SlB (w4.alloc (.cells #[.slice a0 len0 cap0, .slice a1 len1 cap1, .slice a2 len2 cap2] 22)) A4 (len0 + len1 + len2) (l0 ++ l1 ++ l2) := Sl.alloc S4 _
  have y5 := Lib.hid q5.size
  have HQ5 := Lib.hid q5
  have HS := Lib.hid hS
  clear own4 s0 s1 s2 S0 S1 S2 S4 q5 hS
  go_wp2_with fail
  refine D1.out.mono ?_
  rintro e w5 ⟨rfl, rfl⟩
  go_wp2_with fail
  refine D2.out.mono ?_
  rintro e w6 ⟨rfl, rfl⟩
  obtain ⟨W, hW⟩ : ∃ W, W = w4.alloc (.cells #[.slice a0 len0 cap0, .slice a1 len1 cap1, .slice a2 len2 cap2] 22) := ⟨_, rfl⟩
  rw [← hW] at S5 y5 HQ5 ⊢
  have D3 := frameSum_any (some ⟨W.heap.size, 0, none⟩) 1 1 [l0 ++ l1 ++ l2] (W.alloc (.cells #[.slice A4 (len0 + len1 + len2) c4] 22)) (SlBB.lit1 _ S5 hc4 (by omega)) (by omega)
  rw [show ([l0 ++ l1 ++ l2] : List (List UInt8)).flatten = l0 ++ l1 ++ l2 by simp, ← HS.out] at D3
  have D3 := Lib.hid D3
  have HQ6 := Lib.hid (HQ5.out.alloc y5.out (.cells #[.slice A4 (len0 + len1 + len2) c4] 22))
  have D4 := frameSum_any none 0 0 [] (W.alloc (.cells #[.slice A4 (len0 + len1 + len2) c4] 22)) (SlBB.nil _ _) (by omega)
  rw [show ([] : List (List UInt8)).flatten = [] from rfl, sumB_nil] at D4
  have D4 := Lib.hid D4
  clear D1 D2 hW S5
  go_wp2_with fail
  refine D3.out.mono ?_
  rintro e w7 ⟨rfl, rfl⟩
  go_wp2_with fail
  refine D4.out.mono ?_
  rintro e w8 ⟨rfl, rfl⟩
  go_wp2
  go_ret
  exact ⟨by simp, HQ6.out⟩
end Go.Proofs.Ytoeeiancbiaajaa
