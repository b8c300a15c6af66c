/-
  The walk of firthlaw04.VectSteps.
-/
import Derived.Test.YtjjemoiblbehoaaVectSet
import Derived.Test.YtjjemoiblbehoaaVectAwake
import Derived.OpenShut
namespace Go.Proofs.Ytjjemoiblbehoaa
open Go.RowKit
set_option linter.unusedVariables false

theorem bumpL_len (l : List Int) (s d : Int) : (bumpL l s d).length ≤ l.length := by
  unfold bumpL
  split
  · simp
  · simp
theorem setL_len (l : List Int) : (setL l).length ≤ l.length := by
  unfold setL
  split
  · exact setTo_len _ _
  · simp

set_option maxHeartbeats 2000000 in
set_option maxRecDepth 100000 in
theorem vectSteps_walk (a0 : Option Addr) (len0 cap0 : Nat) (l0 : List Int) (dx dy : Int) (w : World)
    (s0 : SlI w a0 len0 l0) (f0 : ∀ z ∈ l0, (Lit.int .i64 z).wf = true) (b0 : len0 ≤ cap0) (z0 : cap0 * 8 ≤ 140737488351232) (wx : (Lit.int .i64 dx).wf = true) (wy : (Lit.int .i64 dy).wf = true) :
    Calls Try.prog 6 #[.slice a0 len0 cap0, .agg #[.int .i64 dx, .int .i64 dy]] w fun e w' => e = .returned (.bool true) ∧ Below w.heap.size w w' := by
  have hn0 : len0 ≤ 140737488351232 := by omega
  have hl0 := s0.len
  have hbl := bumpL_len l0 dx dy
  have hsl := setL_len l0
  have B0 : Below w.heap.size w (w.alloc (.cells #[.int .i64 dx, .int .i64 dy] 31)) := (Below.refl _ _).alloc (Nat.le_refl _) _
  have D0 := Lib.hid (Dot2.new w dx dy 31)
  have C0 := next_any a0 len0 cap0 l0 dx (w.alloc (.cells #[.int .i64 dx, .int .i64 dy] 31)) (Sl.alloc s0 _) hn0
  have C1 := fun W (h : SlI W a0 len0 l0) => refNext_any a0 len0 cap0 l0 dx W h hn0
  rcases hN : nextOf l0 dx with ⟨t1, t2, t3⟩
  simp only [hN] at C0 C1
  have S0 := Lib.hid (Sl.alloc s0 (.cells #[.int .i64 dx, .int .i64 dy] 31))
  have E0 := Lib.hid C0
  have E1 := Lib.hid C1
  have BB0 := Lib.hid B0
  clear C0 C1 hN f0 wx wy s0 B0
  go_enter Try.func6, Try.ntmps6
  go_wp2_with fail
  refine E0.out.mono ?_
  rintro e w1 ⟨rfl, b1⟩
  have X1 := Dot2.new w1 t1 t2 31
  have b1' := b1.alloc b1.size (.cells #[.int .i64 t1, .int .i64 t2] 31)
  have D1 := D0.out.below b1'
  have S1 := Sl.below S0.out b1'
  have B1 := BB0.out.trans (b1'.mono BB0.out.size)
  have Y1 := Lib.hid B1.size
  have F1 := Lib.hid (E1.out _ S1)
  have d10 := D1.1
  have d11 := D1.2
  have d12 := D0.out.below b1
  have d13 := d12.1
  have d14 := d12.lt
  clear b1 b1' E0
  go_wp2_with fail
  refine F1.out.mono ?_
  rintro e w2 ⟨rfl, b2⟩
  have X2' := X1.below b2
  have D2' := D1.below b2
  have q1 := D2'.1
  have q2 := D2'.2
  have q3 := D2'.lt
  have b2' := b2.alloc b2.size (.cells #[.int .i64 t1, .int .i64 t2] 31)
  have Yb2 := Dot2.new w2 t1 t2 31
  have D2 := D1.below b2'
  have X2 := X1.below b2'
  have S2 := Sl.below S1 b2'
  have B2 := B1.trans (b2'.mono Y1.out)
  have Y2 := Lib.hid B2.size
  have F2 := Lib.hid (bump_any a0 len0 cap0 l0 dx dy _ S2 (by omega))
  clear b2 b2' F1 E1 d10 d11 d12 d13 d14 X1 D1 S1 B1
  go_wp2_with fail
  refine F2.out.mono ?_
  rintro e w3 ⟨A3, n3, c3, rfl, s3, hc3, -, b3⟩
  have D3 := D2.below b3
  have X3 := X2.below b3
  have Yb3 := Yb2.below b3
  have S3 := Sl.below S2 b3
  have B3 := B2.trans (b3.mono Y2.out)
  have Y3 := Lib.hid B3.size
  have F3 := Lib.hid (refBump_any a0 len0 cap0 l0 dx dy w3 S3 (by omega))
  have r1 := D3.1
  have r2 := D3.2
  clear b3 F2 q1 q2 q3 X2' D2' D2 X2 Yb2 S2 B2
  go_wp2_with fail
  refine F3.out.mono ?_
  rintro e w4 ⟨A4, n4, c4, rfl, s4, hc4, -, b4⟩
  have X4 := X3.below b4
  have Yb4 := Yb3.below b4
  have S4 := Sl.below S3 b4
  have s3 := Sl.below s3 b4
  have B4 := B3.trans (b4.mono Y3.out)
  have Y4 := Lib.hid B4.size
  clear b4 F3 r1 r2 X3 Yb3 S3 B3 D3
  go_wp2_with fail
  refine (awake_any w4).mono ?_
  rintro e w5 ⟨rfl, b5⟩
  have X5 := X4.below b5
  have Yb5 := Yb4.below b5
  have S5 := Sl.below S4 b5
  have s3 := Sl.below s3 b5
  have s4 := Sl.below s4 b5
  have B5 := B4.trans (b5.mono Y4.out)
  have Y5 := Lib.hid B5.size
  have x0 := X5.1
  have x1 := X5.2
  have y0 := Yb5.1
  have y1 := Yb5.2
  have hn3 : n3 ≤ 140737488351232 := by have := SlI.len s3; omega
  clear b5 X4 Yb4 S4 B4
  go_wp2_with fail
  refine (sameI_any A3 A4 n3 n4 c3 c4 _ _ w5 s3 s4 hn3).mono ?_
  rintro e w6 ⟨rfl, k6, rfl⟩
  have F6 := Lib.hid (set_any a0 len0 cap0 l0 (w5.drewN k6) (Sl.drewN S5 k6) hn0)
  have S6 := Sl.drewN S5 k6
  have B6 := below_drewN B5 k6
  have Y6 := Lib.hid B6.size
  clear B5 x0 x1 y0 y1 X5 Yb5 s3 s4 S5
  go_wp2_with fail
  refine F6.out.mono ?_
  rintro e w7 ⟨A7, n7, c7, rfl, s7, hc7, -, b7⟩
  have S7 := Sl.below S6 b7
  have B7 := B6.trans (b7.mono Y6.out)
  have Y7 := Lib.hid B7.size
  clear b7 F6 S6 B6
  go_wp2_with fail
  refine (refSet_any a0 len0 cap0 l0 w7 S7 hn0).mono ?_
  rintro e w8 ⟨A8, n8, c8, rfl, s8, hc8, -, b8⟩
  have s7 := Sl.below s7 b8
  have B8 := B7.trans (b8.mono Y7.out)
  have hn7 : n7 ≤ 140737488351232 := by have := SlS.len s7; omega
  clear b8 B7 S7
  go_wp2_with fail
  refine (sameS_any A7 A8 n7 n8 c7 c8 _ _ w8 s7 s8 hn7).mono ?_
  rintro e w9 ⟨rfl, k9, rfl⟩
  go_wp2
  go_ret
  exact ⟨by simp, below_drewN B8 k9⟩
end Go.Proofs.Ytjjemoiblbehoaa
