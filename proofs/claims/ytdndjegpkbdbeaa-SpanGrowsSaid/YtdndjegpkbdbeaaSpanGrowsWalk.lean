/-
  The walk of firthlaw03.SpanGrows.
-/
import Derived.Test.YtdndjegpkbdbeaaSpanGrowsPlain
namespace Go.Proofs.Ytdndjegpkbdbeaa
open Go.RowKit
set_option linter.unusedVariables false


set_option maxHeartbeats 2000000 in
set_option maxRecDepth 100000 in
theorem spanGrows_walk (a0 : Option Addr) (len0 cap0 : Nat) (l0 : List Sp) (a1 : Option Addr) (len1 cap1 : Nat) (l1 : List Sp) (a2 : Option Addr) (len2 cap2 : Nat) (l2 : List Sp) (w : World)
    (s0 : SlS w a0 len0 l0) (f0 : ∀ x ∈ l0, wfSp x) (b0 : len0 ≤ cap0) (z0 : cap0 * 24 ≤ 140737488351232) (s1 : SlS w a1 len1 l1) (f1 : ∀ x ∈ l1, wfSp x) (b1 : len1 ≤ cap1) (z1 : cap1 * 24 ≤ 140737488351232)
    (s2 : SlS w a2 len2 l2) (f2 : ∀ x ∈ l2, wfSp x) (b2 : len2 ≤ cap2) (z2 : cap2 * 24 ≤ 140737488351232) :
    Calls Try.prog 4 #[.slice a0 len0 cap0, .slice a1 len1 cap1, .slice a2 len2 cap2] w fun e w' => e = .returned (.bool true) ∧ Below w.heap.size w w' := by
  have hn0 : len0 ≤ 140737488351232 := by omega
  have hn1 : len1 ≤ 140737488351232 := by omega
  have hn2 : len2 ≤ 140737488351232 := by omega
  have ha := joinSL_len l0 l1
  have hb := joinSL_len l1 l2
  clear f0 f1 f2
  rcases joinSE_cases l0 l1 with ⟨j1, -⟩ | ⟨j1, j2⟩
  · rcases joinSE_cases l1 l2 with ⟨k1, -⟩ | ⟨k1, k2⟩
    · obtain ⟨g1, g2, g3, g4, g5⟩ := grows_all j1 k1
      have G := Lib.hid (And.intro g1 (And.intro g2 (And.intro g3 (And.intro g4 g5))))
      have hJ1 := fun W (x : SlS W a0 len0 l0) (y : SlS W a1 len1 l1) => spanJoin_any a0 a1 len0 len1 cap0 cap1 l0 l1 W x y hn0 hn1 b0 b1
      have hJ2 := fun W (x : SlS W a1 len1 l1) (y : SlS W a2 len2 l2) => spanJoin_any a1 a2 len1 len2 cap1 cap2 l1 l2 W x y hn1 hn2 b1 b2
      simp only [j1] at hJ1
      simp only [k1] at hJ2
      have J1 := Lib.hid hJ1
      have J2 := Lib.hid hJ2
      obtain ⟨X, hX⟩ : ∃ X, X = joinSL l0 l1 := ⟨_, rfl⟩
      obtain ⟨Y, hY⟩ : ∃ Y, Y = joinSL l1 l2 := ⟨_, rfl⟩
      have e1 : joinSE X l2 = joinSE l0 Y := by rw [hX, hY]; exact g1
      have e2 : joinSL X l2 = joinSL l0 Y := by rw [hX, hY]; exact g2
      have e3 : joinSE X l1 = 0 := by rw [hX]; exact g3
      have e4 : joinSL X l1 = X := by have := g4; rw [← hX] at this; exact this
      have e5 : joinSE X l2 = 0 ∨ joinSE X l2 = 30 := by rw [hX]; exact g5
      have HX := Lib.hid hX
      have HY := Lib.hid hY
      clear j1 k1 g1 g2 g3 g4 g5 hJ1 hJ2
      rw [← hX] at ha
      rw [← hY] at hb
      clear hX hY
      rcases e5 with e5 | e5
      · have E := Lib.hid (show joinSE X l2 = 0 ∧ joinSE l0 Y = 0 ∧ joinSE X l1 = 0 ∧ joinSL X l2 = joinSL l0 Y ∧ joinSL X l1 = X from ⟨e5, by rw [← e1]; exact e5, e3, e2, e4⟩)
        clear e1 e2 e3 e4 e5
        go_enter Try.func4, Try.ntmps4
        go_wp2_with fail
        refine (awakeS_any w).mono ?_
        rintro e w1 ⟨rfl, B1⟩
        have y1 := B1.size
        have S0 := Sl.below s0 B1
        have S1 := Sl.below s1 B1
        have S2 := Sl.below s2 B1
        go_wp2_with fail
        refine (J1.out w1 S0 S1).mono ?_
        rw [← HX.out]
        rintro e w2 ⟨Ax, nx, cx, rfl, sx, hcx, -, B2⟩
        have S0 := Sl.below S0 B2
        have S1 := Sl.below S1 B2
        have S2 := Sl.below S2 B2
        have hnx : nx ≤ 140737488351232 := by have := SlS.len sx; omega
        have B2 := B1.trans (B2.mono y1)
        have y2 := B2.size
        clear B1
        go_wp2_with fail
        refine (J2.out w2 S1 S2).mono ?_
        rw [← HY.out]
        rintro e w3 ⟨Ay, ny, cy, rfl, sy, hcy, -, B3⟩
        have S0 := Sl.below S0 B3
        have S1 := Sl.below S1 B3
        have S2 := Sl.below S2 B3
        have sx := Sl.below sx B3
        have hny : ny ≤ 140737488351232 := by have := SlS.len sy; omega
        have B3 := B2.trans (B3.mono y2)
        have y3 := B3.size
        clear B2
        have D4 := spanJoin_any Ax a2 nx len2 cx cap2 X l2 w3 sx S2 hnx hn2 hcx b2
        rw [E.out.1] at D4
        have D4 := Lib.hid D4
        go_wp2_with fail
        refine D4.out.mono ?_
        rintro e w4 ⟨A4, n4, c4, rfl, s4, hc4, -, B4⟩
        have S0 := Sl.below S0 B4
        have S1 := Sl.below S1 B4
        have sx := Sl.below sx B4
        have sy := Sl.below sy B4
        have hn4 : n4 ≤ 140737488351232 := by have := SlS.len s4; have := joinSL_len X l2; omega
        have B4 := B3.trans (B4.mono y3)
        have y4 := B4.size
        clear B3 D4
        have D5 := spanJoin_any a0 Ay len0 ny cap0 cy l0 Y w4 S0 sy hn0 hny b0 hcy
        rw [E.out.2.1] at D5
        have D5 := Lib.hid D5
        go_wp2_with fail
        refine D5.out.mono ?_
        rintro e w5 ⟨A5, n5, c5, rfl, s5, hc5, -, B5⟩
        have S1 := Sl.below S1 B5
        have sx := Sl.below sx B5
        have s4 := Sl.below s4 B5
        have B5 := B4.trans (B5.mono y4)
        have y5 := B5.size
        clear B4 D5
        have D6 := spanJoin_any Ax a1 nx len1 cx cap1 X l1 w5 sx S1 hnx hn1 hcx b1
        rw [E.out.2.2.1] at D6
        have D6 := Lib.hid D6
        go_wp2_with fail
        refine D6.out.mono ?_
        rintro e w6 ⟨A6, n6, c6, rfl, s6, hc6, -, B6⟩
        have sx := Sl.below sx B6
        have s4 := Sl.below s4 B6
        have s5 := Sl.below s5 B6
        have hn6 : n6 ≤ 140737488351232 := by have := SlS.len s6; have := joinSL_len X l1; omega
        have B6 := B5.trans (B6.mono y5)
        have y6 := B6.size
        clear B5 D6 S0 S1 S2
        have D7 := sameS_any A4 A5 n4 n5 c4 c5 _ _ w6 s4 s5 hn4
        rw [E.out.2.2.2.1, beq_self_eq_true] at D7
        have D7 := Lib.hid D7
        have D8 := fun d => sameS_any A6 Ax n6 nx c6 cx _ _ (w6.drewN d) (Sl.drewN s6 d) (Sl.drewN sx d) hn6
        simp only [E.out.2.2.2.2, beq_self_eq_true] at D8
        have D8 := Lib.hid D8
        go_wp2_with fail
        refine D7.out.mono ?_
        rintro e w7 ⟨rfl, d, rfl⟩
        go_wp2_with fail
        refine (D8.out d).mono ?_
        rintro e w8 ⟨rfl, d', rfl⟩
        go_wp2
        go_ret
        exact ⟨by simp, below_drewN B6 _⟩
      · have E := Lib.hid (show joinSE X l2 = 30 ∧ joinSE l0 Y = 30 ∧ joinSE X l1 = 0 ∧ joinSL X l2 = joinSL l0 Y ∧ joinSL X l1 = X from ⟨e5, by rw [← e1]; exact e5, e3, e2, e4⟩)
        clear e1 e2 e3 e4 e5
        go_enter Try.func4, Try.ntmps4
        go_wp2_with fail
        refine (awakeS_any w).mono ?_
        rintro e w1 ⟨rfl, B1⟩
        have y1 := B1.size
        have S0 := Sl.below s0 B1
        have S1 := Sl.below s1 B1
        have S2 := Sl.below s2 B1
        go_wp2_with fail
        refine (J1.out w1 S0 S1).mono ?_
        rw [← HX.out]
        rintro e w2 ⟨Ax, nx, cx, rfl, sx, hcx, -, B2⟩
        have S0 := Sl.below S0 B2
        have S1 := Sl.below S1 B2
        have S2 := Sl.below S2 B2
        have hnx : nx ≤ 140737488351232 := by have := SlS.len sx; omega
        have B2 := B1.trans (B2.mono y1)
        have y2 := B2.size
        clear B1
        go_wp2_with fail
        refine (J2.out w2 S1 S2).mono ?_
        rw [← HY.out]
        rintro e w3 ⟨Ay, ny, cy, rfl, sy, hcy, -, B3⟩
        have S0 := Sl.below S0 B3
        have S1 := Sl.below S1 B3
        have S2 := Sl.below S2 B3
        have sx := Sl.below sx B3
        have hny : ny ≤ 140737488351232 := by have := SlS.len sy; omega
        have B3 := B2.trans (B3.mono y2)
        have y3 := B3.size
        clear B2
        have D4 := spanJoin_any Ax a2 nx len2 cx cap2 X l2 w3 sx S2 hnx hn2 hcx b2
        rw [E.out.1] at D4
        have D4 := Lib.hid D4
        go_wp2_with fail
        refine D4.out.mono ?_
        rintro e w4 ⟨A4, n4, c4, rfl, s4, hc4, -, B4⟩
        have S0 := Sl.below S0 B4
        have S1 := Sl.below S1 B4
        have sx := Sl.below sx B4
        have sy := Sl.below sy B4
        have hn4 : n4 ≤ 140737488351232 := by have := SlS.len s4; have := joinSL_len X l2; omega
        have B4 := B3.trans (B4.mono y3)
        have y4 := B4.size
        clear B3 D4
        have D5 := spanJoin_any a0 Ay len0 ny cap0 cy l0 Y w4 S0 sy hn0 hny b0 hcy
        rw [E.out.2.1] at D5
        have D5 := Lib.hid D5
        go_wp2_with fail
        refine D5.out.mono ?_
        rintro e w5 ⟨A5, n5, c5, rfl, s5, hc5, -, B5⟩
        have S1 := Sl.below S1 B5
        have sx := Sl.below sx B5
        have s4 := Sl.below s4 B5
        have B5 := B4.trans (B5.mono y4)
        have y5 := B5.size
        clear B4 D5
        have D6 := spanJoin_any Ax a1 nx len1 cx cap1 X l1 w5 sx S1 hnx hn1 hcx b1
        rw [E.out.2.2.1] at D6
        have D6 := Lib.hid D6
        go_wp2_with fail
        refine D6.out.mono ?_
        rintro e w6 ⟨A6, n6, c6, rfl, s6, hc6, -, B6⟩
        have sx := Sl.below sx B6
        have s4 := Sl.below s4 B6
        have s5 := Sl.below s5 B6
        have hn6 : n6 ≤ 140737488351232 := by have := SlS.len s6; have := joinSL_len X l1; omega
        have B6 := B5.trans (B6.mono y5)
        have y6 := B6.size
        clear B5 D6 S0 S1 S2
        have D7 := sameS_any A4 A5 n4 n5 c4 c5 _ _ w6 s4 s5 hn4
        rw [E.out.2.2.2.1, beq_self_eq_true] at D7
        have D7 := Lib.hid D7
        have D8 := fun d => sameS_any A6 Ax n6 nx c6 cx _ _ (w6.drewN d) (Sl.drewN s6 d) (Sl.drewN sx d) hn6
        simp only [E.out.2.2.2.2, beq_self_eq_true] at D8
        have D8 := Lib.hid D8
        go_wp2_with fail
        refine D7.out.mono ?_
        rintro e w7 ⟨rfl, d, rfl⟩
        go_wp2_with fail
        refine (D8.out d).mono ?_
        rintro e w8 ⟨rfl, d', rfl⟩
        go_wp2
        go_ret
        exact ⟨by simp, below_drewN B6 _⟩
    · have hJ1 := fun W (x : SlS W a0 len0 l0) (y : SlS W a1 len1 l1) => spanJoin_any a0 a1 len0 len1 cap0 cap1 l0 l1 W x y hn0 hn1 b0 b1
      have hJ2 := fun W (x : SlS W a1 len1 l1) (y : SlS W a2 len2 l2) => spanJoin_any a1 a2 len1 len2 cap1 cap2 l1 l2 W x y hn1 hn2 b1 b2
      simp only [j1] at hJ1
      simp only [k2] at hJ2
      have v1 : (joinSE l1 l2 != 0) = true := by simpa using k1
      have J1 := Lib.hid hJ1
      have J2 := Lib.hid hJ2
      clear hJ1 hJ2 j1 k1 k2
      go_enter Try.func4, Try.ntmps4
      go_wp2_with fail
      refine (awakeS_any w).mono ?_
      rintro e w1 ⟨rfl, B1⟩
      have y1 := B1.size
      go_wp2_with fail
      refine (J1.out w1 (Sl.below s0 B1) (Sl.below s1 B1)).mono ?_
      rintro e w2 ⟨Ax, nx, cx, rfl, sx, hcx, -, B2⟩
      have B2 := B1.trans (B2.mono y1)
      have y2 := B2.size
      go_wp2_with fail
      refine (J2.out w2 (Sl.below s1 B2) (Sl.below s2 B2)).mono ?_
      rintro e w3 ⟨Ay, ny, cy, rfl, sy, hcy, -, B3⟩
      have hy := SlS.len sy
      simp only [List.length_nil] at hy
      subst hy
      have B3 := B2.trans (B3.mono y2)
      clear B1 B2 sx sy J1 J2
      by_cases hx : nx = 0
      · have q : ((nx : Int) == 0) = true := by simp; omega
        go_wp2
        go_ret
        exact ⟨by simp, B3⟩
      · have q : ((nx : Int) == 0) = false := by simp; omega
        go_wp2
        go_ret
        exact ⟨by simp, B3⟩
  · have hJ1 := fun W (x : SlS W a0 len0 l0) (y : SlS W a1 len1 l1) => spanJoin_any a0 a1 len0 len1 cap0 cap1 l0 l1 W x y hn0 hn1 b0 b1
    simp only [j2] at hJ1
    have v1 : (joinSE l0 l1 != 0) = true := by simpa using j1
    have J1 := Lib.hid hJ1
    clear hJ1 j1 j2
    go_enter Try.func4, Try.ntmps4
    go_wp2_with fail
    refine (awakeS_any w).mono ?_
    rintro e w1 ⟨rfl, B1⟩
    have y1 := B1.size
    go_wp2_with fail
    refine (J1.out w1 (Sl.below s0 B1) (Sl.below s1 B1)).mono ?_
    rintro e w2 ⟨Ax, nx, cx, rfl, sx, hcx, -, B2⟩
    have hx := SlS.len sx
    simp only [List.length_nil] at hx
    subst hx
    have B2 := B1.trans (B2.mono y1)
    have y2 := B2.size
    go_wp2_with fail
    refine (spanJoin_any a1 a2 len1 len2 cap1 cap2 l1 l2 w2 (Sl.below s1 B2) (Sl.below s2 B2) hn1 hn2 b1 b2).mono ?_
    rintro e w3 ⟨Ay, ny, cy, rfl, sy, hcy, -, B3⟩
    have B3 := B2.trans (B3.mono y2)
    clear B1 B2 sx sy J1
    go_wp2
    go_ret
    exact ⟨by simp, B3⟩
end Go.Proofs.Ytdndjegpkbdbeaa
