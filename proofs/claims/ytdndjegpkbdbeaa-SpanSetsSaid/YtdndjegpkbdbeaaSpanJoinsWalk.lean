/-
  The walks of firthlaw03.SpanAdds and firthlaw03.SpanJoins.
-/
import Derived.Test.YtdndjegpkbdbeaaSpanAwake
import Derived.Test.YtdndjegpkbdbeaaSpanWithin
import Derived.OpenShut
namespace Go.Proofs.Ytdndjegpkbdbeaa
open Go.RowKit
set_option linter.unusedVariables false

theorem mergeL_len : ∀ (f : Nat) (a b out : List Sp), (mergeF f a b out).length ≤ out.length + f
  | 0, a, b, out => by simp [mergeF]
  | f + 1, [], [], out => by simp [mergeF]
  | f + 1, x :: a, [], out => by
    rw [mergeF]
    have := mergeL_len f a [] (pushS out x)
    have := pushS_len out x
    omega
  | f + 1, [], y :: b, out => by
    rw [mergeF]
    have := mergeL_len f [] b (pushS out y)
    have := pushS_len out y
    omega
  | f + 1, x :: a, y :: b, out => by
    rw [mergeF]
    have := mergeL_len f a (y :: b) (pushS out x)
    have := mergeL_len f (x :: a) b (pushS out y)
    have := pushS_len out x
    have := pushS_len out y
    split <;> omega
where
  pushS_len (out : List Sp) (x : Sp) : (pushS out x).length ≤ out.length + 1 := by
    rcases List.eq_nil_or_concat out with rfl | ⟨o, z, rfl⟩
    · rw [pushS_nil]; simp
    · rw [List.concat_eq_append, pushS_snoc]
      split <;> simp
theorem joinSL_len (a b : List Sp) : (joinSL a b).length ≤ 1024 := by
  unfold joinSL
  split
  · rename_i h; exact h.2.2
  · simp
theorem addSL_len (a : List Sp) (s n : Int) : (addSL a s n).length ≤ 1024 := by
  unfold addSL
  split
  · exact joinSL_len _ _
  · simp

set_option maxHeartbeats 1000000 in
set_option maxRecDepth 100000 in
theorem spanAdds_walk (a0 : Option Addr) (len0 cap0 : Nat) (l0 : List Sp) (dx dy : Int) (w : World)
    (s0 : SlS w a0 len0 l0) (f0 : ∀ x ∈ l0, wfSp x) (b0 : len0 ≤ cap0) (z0 : cap0 * 24 ≤ 140737488351232) (wx : (Lit.int .i64 dx).wf = true) (wy : (Lit.int .i64 dy).wf = true) :
    Calls Try.prog 3 #[.slice a0 len0 cap0, .agg #[.int .i64 dx, .int .i64 dy]] w fun e w' => e = .returned (.bool true) ∧ Below w.heap.size w w' := by
  have hn0 : len0 ≤ 140737488351232 := by omega
  have ha := addSL_len l0 dx dy
  have S0 := Sl.alloc s0 (.cells #[.int .i64 dx, .int .i64 dy] 24)
  have D0 := Lib.hid (Box2.new w 24 dx dy)
  have B0 : Below w.heap.size w (w.alloc (.cells #[.int .i64 dx, .int .i64 dy] 24)) := (Below.refl _ _).alloc (Nat.le_refl _) _
  have C0 := Lib.hid (spanAdd_any a0 len0 cap0 l0 dx dy _ S0 hn0 b0)
  have HB0 := Lib.hid B0
  have HS0 := Lib.hid S0
  clear f0 wx wy s0 B0 S0
  go_enter Try.func3, Try.ntmps3
  go_wp2_with fail
  refine C0.out.mono ?_
  rintro e w1 ⟨A1, n1, c1, rfl, s1, hc1, -, b1⟩
  have B1 := HB0.out.trans (b1.mono HB0.out.size)
  have S1 := Sl.below HS0.out b1
  have g0 := (b1.cell (World.block_lt_of_cell? _ _ D0.out.c0)).trans D0.out.c0
  have g1 := (b1.cell (World.block_lt_of_cell? _ _ D0.out.c1)).trans D0.out.c1
  have C1 := Lib.hid (refAdd_any a0 len0 cap0 l0 dx dy w1 S1 hn0 b0)
  have z1 := Lib.hid B1.size
  have hn1 : n1 ≤ 140737488351232 := by have := SlS.len s1; omega
  clear b1 C0 HS0 S1
  go_wp2_with fail
  refine C1.out.mono ?_
  rintro e w2 ⟨A2, n2, c2, rfl, s2, hc2, -, b2⟩
  have B2 := B1.trans (b2.mono z1.out)
  have s1 := Sl.below s1 b2
  have z2 := Lib.hid B2.size
  clear b2 B1 C1 g0 g1
  go_wp2_with fail
  refine (awakeS_any w2).mono ?_
  rintro e w3 ⟨rfl, b3⟩
  have B3 := B2.trans (b3.mono z2.out)
  have s1 := Sl.below s1 b3
  have s2 := Sl.below s2 b3
  clear b3 B2
  go_wp2_with fail
  refine (sameS_any A1 A2 n1 n2 c1 c2 _ _ w3 s1 s2 hn1).mono ?_
  rintro e w4 ⟨rfl, d, rfl⟩
  go_wp2
  go_ret
  exact ⟨by simp, below_drewN B3 d⟩

set_option maxHeartbeats 1000000 in
set_option maxRecDepth 100000 in
theorem spanJoins_walk (a0 : Option Addr) (len0 cap0 : Nat) (l0 : List Sp) (a1 : Option Addr) (len1 cap1 : Nat) (l1 : List Sp) (w : World)
    (s0 : SlS w a0 len0 l0) (f0 : ∀ x ∈ l0, wfSp x) (b0 : len0 ≤ cap0) (z0 : cap0 * 24 ≤ 140737488351232) (s1 : SlS w a1 len1 l1) (f1 : ∀ x ∈ l1, wfSp x) (b1 : len1 ≤ cap1) (z1 : cap1 * 24 ≤ 140737488351232) :
    Calls Try.prog 8 #[.slice a0 len0 cap0, .slice a1 len1 cap1] w fun e w' => e = .returned (.bool true) ∧ Below w.heap.size w w' := by
  have hn0 : len0 ≤ 140737488351232 := by omega
  have hn1 : len1 ≤ 140737488351232 := by omega
  have ha := joinSL_len l0 l1
  clear f0 f1
  go_enter Try.func8, Try.ntmps8
  go_wp2_with fail
  refine (spanJoin_any a0 a1 len0 len1 cap0 cap1 l0 l1 w s0 s1 hn0 hn1 b0 b1).mono ?_
  rintro e w1 ⟨A3, n3, c3, rfl, s3, hc3, -, B1⟩
  have S0 := Sl.below s0 B1
  have S1 := Sl.below s1 B1
  have z1' := B1.size
  go_wp2_with fail
  refine (refJoinS_any a0 a1 len0 len1 cap0 cap1 l0 l1 w1 S0 S1 hn0 hn1).mono ?_
  rintro e w2 ⟨A4, n4, c4, rfl, s4, hc4, -, B2⟩
  have S3 := Sl.below s3 B2
  have S0 := Sl.below S0 B2
  have S1 := Sl.below S1 B2
  have B2 := B1.trans (B2.mono z1')
  have z2 := B2.size
  clear s3 B1
  go_wp2_with fail
  refine (awakeS_any w2).mono ?_
  rintro e w3 ⟨rfl, B3⟩
  have S3 := Sl.below S3 B3
  have S4 := Sl.below s4 B3
  have S0 := Sl.below S0 B3
  have S1 := Sl.below S1 B3
  have B3 := B2.trans (B3.mono z2)
  have z3 := B3.size
  have hn3 : n3 ≤ 140737488351232 := by have := SlS.len S3; omega
  clear s4 B2
  go_wp2_with fail
  refine (sameS_any A3 A4 n3 n4 c3 c4 _ _ w3 S3 S4 hn3).mono ?_
  rintro e w4 ⟨rfl, d, rfl⟩
  go_wp2_with fail
  refine (spanWithin_any a0 a1 len0 len1 cap0 cap1 l0 l1 _ (Sl.drewN S0 d) (Sl.drewN S1 d) hn0 hn1).mono ?_
  rintro e w5 ⟨rfl, B5⟩
  have S0 := Sl.below (Sl.drewN S0 d) B5
  have S1 := Sl.below (Sl.drewN S1 d) B5
  have B5 := (below_drewN B3 d).trans (B5.mono z3)
  have z5 := B5.size
  clear B3
  go_wp2_with fail
  refine (refWithin_any a0 a1 len0 len1 cap0 cap1 l0 l1 w5 S0 S1 hn0 hn1).mono ?_
  rintro e w6 ⟨rfl, B6⟩
  have S0 := Sl.below S0 B6
  have B6 := B5.trans (B6.mono z5)
  have z6 := B6.size
  clear B5
  go_wp2_with fail
  refine (spanSize_any a0 len0 cap0 l0 w6 S0 hn0).mono ?_
  rintro e w7 ⟨rfl, B7⟩
  have S0 := Sl.below S0 B7
  have B7 := B6.trans (B7.mono z6)
  have z7 := B7.size
  clear B6
  go_wp2_with fail
  refine (refSize_any a0 len0 cap0 l0 w7 S0 hn0).mono ?_
  rintro e w8 ⟨rfl, B8⟩
  go_wp2
  go_ret
  exact ⟨by simp, B7.trans (B8.mono z7)⟩
end Go.Proofs.Ytdndjegpkbdbeaa
