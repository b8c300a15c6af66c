/-
  The walk of firthlaw04.VectCovers.
-/
import Derived.Test.YtjjemoiblbehoaaVectSpanPlain
import Derived.Test.YtjjemoiblbehoaaVectAwake
import Derived.Test.YtjjemoiblbehoaaSpanJoin
import Derived.Test.YtjjemoiblbehoaaSpanWithin
import Derived.Test.YtjjemoiblbehoaaDotMem
import Derived.WalkArith
namespace Go.Proofs.Ytjjemoiblbehoaa
open Go.RowKit
set_option linter.unusedVariables false

/-- What the law's values read as in a world of the call. -/
def CovF (w : World) (a0 a1 Ax Ay Aj As : Option Addr) (n0 n1 nx ny nj ns : Nat) (l0 l1 : List Int) (dx dy : Int) (W : World) : Prop :=
  SlI W a0 n0 l0 ∧ SlI W a1 n1 l1 ∧ SlS W Ax nx (setL l0) ∧ SlS W Ay ny (setL l1) ∧ SlI W Aj nj (joinL l0 l1) ∧ SlS W As ns (setL (joinL l0 l1)) ∧ Dot2 W w.heap.size dx dy ∧ Below w.heap.size w W
theorem CovF.below {w : World} {a0 a1 Ax Ay Aj As : Option Addr} {n0 n1 nx ny nj ns : Nat} {l0 l1 : List Int} {dx dy : Int} {W W' : World} (h : CovF w a0 a1 Ax Ay Aj As n0 n1 nx ny nj ns l0 l1 dx dy W) (b : Below W.heap.size W W') : CovF w a0 a1 Ax Ay Aj As n0 n1 nx ny nj ns l0 l1 dx dy W' := by
  obtain ⟨h1, h2, h3, h4, h5, h6, h7, h8⟩ := h
  exact ⟨Sl.below h1 b, Sl.below h2 b, Sl.below h3 b, Sl.below h4 b, Sl.below h5 b, Sl.below h6 b, h7.below b, h8.trans (b.mono h8.size)⟩

theorem CovF.drewN {w : World} {a0 a1 Ax Ay Aj As : Option Addr} {n0 n1 nx ny nj ns : Nat} {l0 l1 : List Int} {dx dy : Int} {W : World} (h : CovF w a0 a1 Ax Ay Aj As n0 n1 nx ny nj ns l0 l1 dx dy W) (k : Nat) : CovF w a0 a1 Ax Ay Aj As n0 n1 nx ny nj ns l0 l1 dx dy (W.drewN k) := by
  obtain ⟨h1, h2, h3, h4, h5, h6, h7, h8⟩ := h
  exact ⟨Sl.drewN h1 k, Sl.drewN h2 k, Sl.drewN h3 k, Sl.drewN h4 k, Sl.drewN h5 k, Sl.drewN h6 k, h7, below_drewN h8 k⟩

def CovC (w : World) (a0 a1 Ax Ay Aj As : Option Addr) (n0 n1 nx ny nj ns : Nat) (l0 l1 : List Int) (dx dy : Int) (W : World) : Prop :=
  W.cell? ⟨w.heap.size, 0, none⟩ = some (.int .i64 dx) ∧ W.cell? ⟨w.heap.size, 1, none⟩ = some (.int .i64 dy) ∧ CovF w a0 a1 Ax Ay Aj As n0 n1 nx ny nj ns l0 l1 dx dy W
section
variable {w : World} {a0 a1 Ax Ay Aj As : Option Addr} {n0 n1 nx ny nj ns : Nat} {l0 l1 : List Int} {dx dy : Int} {W W' : World}
theorem CovC.of (h : CovF w a0 a1 Ax Ay Aj As n0 n1 nx ny nj ns l0 l1 dx dy W) : W.cell? ⟨w.heap.size, 0, none⟩ = some (.int .i64 dx) ∧ W.cell? ⟨w.heap.size, 1, none⟩ = some (.int .i64 dy) ∧ CovF w a0 a1 Ax Ay Aj As n0 n1 nx ny nj ns l0 l1 dx dy W := ⟨h.2.2.2.2.2.2.1.1, h.2.2.2.2.2.2.1.2, h⟩
theorem CovC.step (h : W.cell? ⟨w.heap.size, 0, none⟩ = some (.int .i64 dx) ∧ W.cell? ⟨w.heap.size, 1, none⟩ = some (.int .i64 dy) ∧ CovF w a0 a1 Ax Ay Aj As n0 n1 nx ny nj ns l0 l1 dx dy W) (b : Below W.heap.size W W') :
    W'.cell? ⟨w.heap.size, 0, none⟩ = some (.int .i64 dx) ∧ W'.cell? ⟨w.heap.size, 1, none⟩ = some (.int .i64 dy) ∧ CovF w a0 a1 Ax Ay Aj As n0 n1 nx ny nj ns l0 l1 dx dy W' := CovC.of (h.2.2.below b)
theorem CovC.drewN (h : W.cell? ⟨w.heap.size, 0, none⟩ = some (.int .i64 dx) ∧ W.cell? ⟨w.heap.size, 1, none⟩ = some (.int .i64 dy) ∧ CovF w a0 a1 Ax Ay Aj As n0 n1 nx ny nj ns l0 l1 dx dy W) (k : Nat) :
    (W.drewN k).cell? ⟨w.heap.size, 0, none⟩ = some (.int .i64 dx) ∧ (W.drewN k).cell? ⟨w.heap.size, 1, none⟩ = some (.int .i64 dy) ∧ CovF w a0 a1 Ax Ay Aj As n0 n1 nx ny nj ns l0 l1 dx dy (W.drewN k) := CovC.of (h.2.2.drewN k)
theorem CovF.v0 (h : W.cell? ⟨w.heap.size, 0, none⟩ = some (.int .i64 dx) ∧ W.cell? ⟨w.heap.size, 1, none⟩ = some (.int .i64 dy) ∧ CovF w a0 a1 Ax Ay Aj As n0 n1 nx ny nj ns l0 l1 dx dy W) : SlI W a0 n0 l0 := h.2.2.1
theorem CovF.vx (h : W.cell? ⟨w.heap.size, 0, none⟩ = some (.int .i64 dx) ∧ W.cell? ⟨w.heap.size, 1, none⟩ = some (.int .i64 dy) ∧ CovF w a0 a1 Ax Ay Aj As n0 n1 nx ny nj ns l0 l1 dx dy W) : SlS W Ax nx (setL l0) := h.2.2.2.2.1
theorem CovF.vj (h : W.cell? ⟨w.heap.size, 0, none⟩ = some (.int .i64 dx) ∧ W.cell? ⟨w.heap.size, 1, none⟩ = some (.int .i64 dy) ∧ CovF w a0 a1 Ax Ay Aj As n0 n1 nx ny nj ns l0 l1 dx dy W) : SlI W Aj nj (joinL l0 l1) := h.2.2.2.2.2.2.1
theorem CovF.vs (h : W.cell? ⟨w.heap.size, 0, none⟩ = some (.int .i64 dx) ∧ W.cell? ⟨w.heap.size, 1, none⟩ = some (.int .i64 dy) ∧ CovF w a0 a1 Ax Ay Aj As n0 n1 nx ny nj ns l0 l1 dx dy W) : SlS W As ns (setL (joinL l0 l1)) := h.2.2.2.2.2.2.2.1
end

set_option maxHeartbeats 2000000 in
set_option maxRecDepth 100000 in
theorem vectCovers_walk (a0 : Option Addr) (len0 cap0 : Nat) (l0 : List Int) (a1 : Option Addr) (len1 cap1 : Nat) (l1 : List Int) (dx dy : Int) (w : World)
    (s0 : SlI w a0 len0 l0) (f0 : ∀ z ∈ l0, (Lit.int .i64 z).wf = true) (b0 : len0 ≤ cap0) (z0 : cap0 * 8 ≤ 140737488351232) (s1 : SlI w a1 len1 l1) (f1 : ∀ z ∈ l1, (Lit.int .i64 z).wf = true) (b1 : len1 ≤ cap1) (z1 : cap1 * 8 ≤ 140737488351232)
    (wx : (Lit.int .i64 dx).wf = true) (wy : (Lit.int .i64 dy).wf = true) :
    Calls Try.prog 8 #[.slice a0 len0 cap0, .slice a1 len1 cap1, .agg #[.int .i64 dx, .int .i64 dy]] w fun e w' => e = .returned (.bool true) ∧ Below w.heap.size w w' := by
  have hn0 : len0 ≤ 140737488351232 := by omega
  have hn1 : len1 ≤ 140737488351232 := by omega
  have e0 := s0.len
  have e1 := s1.len
  have B0 : Below w.heap.size w (w.alloc (.cells #[.int .i64 dx, .int .i64 dy] 31)) := (Below.refl _ _).alloc (Nat.le_refl _) _
  have D0 := Dot2.new w dx dy 31
  cases hj : joinOk l0 l1
  · have S0 := Lib.hid (Sl.alloc s0 (.cells #[.int .i64 dx, .int .i64 dy] 31))
    have S1 := Lib.hid (Sl.alloc s1 (.cells #[.int .i64 dx, .int .i64 dy] 31))
    have BB := Lib.hid B0
    have R0 := fun W (g0 : SlI W a0 len0 l0) => refRight_any a0 len0 cap0 l0 W g0 hn0
    have R1 := fun W (g0 : SlI W a1 len1 l1) => refRight_any a1 len1 cap1 l1 W g0 hn1
    clear s0 s1 B0 D0 f0 f1
    cases hr0 : rightB l0
    · simp only [hr0] at R0
      have R0 := Lib.hid R0
      clear R1 hj hr0
      go_enter Try.func8, Try.ntmps8
      go_wp2_with fail
      refine (awake_any _).mono ?_
      rintro e w1 ⟨rfl, q1⟩
      have BB := Lib.hid (BB.out.trans (q1.mono BB.out.size))
      have G0 := Lib.hid (R0.out w1 (Sl.below S0.out q1))
      clear q1
      go_wp2_with fail
      refine G0.out.mono ?_
      rintro e w2 ⟨rfl, rfl⟩
      go_wp2_with fail
      refine (awake_any _).mono ?_
      rintro e w3 ⟨rfl, q3⟩
      go_wp2
      go_ret
      exact ⟨rfl, BB.out.trans (q3.mono BB.out.size)⟩
    · cases hr1 : rightB l1
      · simp only [hr0] at R0
        simp only [hr1] at R1
        have R0 := Lib.hid R0
        have R1 := Lib.hid R1
        clear hj hr0 hr1
        go_enter Try.func8, Try.ntmps8
        go_wp2_with fail
        refine (awake_any _).mono ?_
        rintro e w1 ⟨rfl, q1⟩
        have BB := Lib.hid (BB.out.trans (q1.mono BB.out.size))
        have G0 := Lib.hid (R0.out w1 (Sl.below S0.out q1))
        have G1 := Lib.hid (R1.out w1 (Sl.below S1.out q1))
        clear q1
        go_wp2_with fail
        refine G0.out.mono ?_
        rintro e w2 ⟨rfl, rfl⟩
        go_wp2_with fail
        refine G1.out.mono ?_
        rintro e w2 ⟨rfl, rfl⟩
        go_wp2_with fail
        refine (awake_any _).mono ?_
        rintro e w3 ⟨rfl, q3⟩
        go_wp2
        go_ret
        exact ⟨rfl, BB.out.trans (q3.mono BB.out.size)⟩
      · have hne : ((len0 : Int) != (len1 : Int)) = true := by
          unfold joinOk at hj
          rw [hr0, hr1] at hj
          simp at hj ⊢
          omega
        simp only [hr0] at R0
        simp only [hr1] at R1
        have R0 := Lib.hid R0
        have R1 := Lib.hid R1
        clear hj hr0 hr1
        go_enter Try.func8, Try.ntmps8
        go_wp2_with fail
        refine (awake_any _).mono ?_
        rintro e w1 ⟨rfl, q1⟩
        have BB := Lib.hid (BB.out.trans (q1.mono BB.out.size))
        have G0 := Lib.hid (R0.out w1 (Sl.below S0.out q1))
        have G1 := Lib.hid (R1.out w1 (Sl.below S1.out q1))
        clear q1
        go_wp2_with fail
        refine G0.out.mono ?_
        rintro e w2 ⟨rfl, rfl⟩
        go_wp2_with fail
        refine G1.out.mono ?_
        rintro e w2 ⟨rfl, rfl⟩
        go_wp2_with fail
        refine (awake_any _).mono ?_
        rintro e w3 ⟨rfl, q3⟩
        go_wp2
        go_ret
        exact ⟨rfl, BB.out.trans (q3.mono BB.out.size)⟩
  · obtain ⟨hr0, hr1, hl⟩ := joinOk_three hj
    obtain ⟨hJ1, hJ2⟩ := join_set hj
    obtain rfl : len0 = len1 := by omega
    have HP := Lib.hid (And.intro hr0 (And.intro hr1 (And.intro hJ1 hJ2)))
    have HB := Lib.hid (below_within hj)
    have HW := Lib.hid (holds_within hr0 hr1)
    have HH := Lib.hid (holds_join hj)
    have HC := Lib.hid (covers_has hr0 dx dy)
    have HR := Lib.hid (set_right hr0)
    have J := fun W (g0 : SlI W a0 len0 l0) (g1 : SlI W a1 len0 l1) => join_any a0 a1 len0 len0 cap0 cap1 l0 l1 W g0 g1 hn0 hn0
    simp only [hj, if_true] at J
    have J := Lib.hid J
    have R0 := Lib.hid (fun W (g0 : SlI W a0 len0 l0) => refRight_any a0 len0 cap0 l0 W g0 hn0)
    have R1 := Lib.hid (fun W (g0 : SlI W a1 len0 l1) => refRight_any a1 len0 cap1 l1 W g0 hn0)
    clear hl hJ1 hJ2 hr0 hr1 hj
    have S0 := Lib.hid (Sl.alloc s0 (.cells #[.int .i64 dx, .int .i64 dy] 31))
    have S1 := Lib.hid (Sl.alloc s1 (.cells #[.int .i64 dx, .int .i64 dy] 31))
    have BB := Lib.hid B0
    have DD := Lib.hid D0
    clear s0 s1 B0 D0 f0 f1
    go_enter Try.func8, Try.ntmps8
    go_wp2_with fail
    refine (awake_any _).mono ?_
    rintro e w1 ⟨rfl, q1⟩
    have S0 := Lib.hid (Sl.below S0.out q1)
    have S1 := Lib.hid (Sl.below S1.out q1)
    have DD := Lib.hid (DD.out.below q1)
    have BB := Lib.hid (BB.out.trans (q1.mono BB.out.size))
    clear q1
    have G0 := R0.out w1 S0.out
    have G1 := R1.out w1 S1.out
    rw [HP.out.1] at G0
    rw [HP.out.2.1] at G1
    have G0 := Lib.hid G0
    have G1 := Lib.hid G1
    go_wp2_with fail
    refine G0.out.mono ?_
    rintro e w2 ⟨rfl, rfl⟩
    go_wp2_with fail
    refine G1.out.mono ?_
    rintro e w3 ⟨rfl, rfl⟩
    clear G0 G1
    go_wp2_with fail
    refine (set_any a0 len0 cap0 l0 w1 S0.out hn0).mono ?_
    rintro e w2 ⟨Ax, nx, cx, rfl, sx, mx, -, q2⟩
    have S0 := Lib.hid (Sl.below S0.out q2)
    have S1 := Lib.hid (Sl.below S1.out q2)
    have DD := Lib.hid (DD.out.below q2)
    have BB := Lib.hid (BB.out.trans (q2.mono BB.out.size))
    have hnx : nx ≤ 1024 := by have h1 := SlS.len sx; have h2 := (rightS_true.1 HR.out).2; omega
    have SX := Lib.hid sx
    clear q2 sx
    go_wp2_with fail
    refine (set_any a1 len0 cap1 l1 w2 S1.out hn0).mono ?_
    rintro e w3 ⟨Ay, ny, cy, rfl, sy, my, -, q3⟩
    have S0 := Lib.hid (Sl.below S0.out q3)
    have S1 := Lib.hid (Sl.below S1.out q3)
    have DD := Lib.hid (DD.out.below q3)
    have BB := Lib.hid (BB.out.trans (q3.mono BB.out.size))
    have SX := Lib.hid (Sl.below SX.out q3)
    have hny : ny ≤ 1024 := by have h1 := SlS.len sy; have h2 := (rightS_true.1 (set_right HP.out.2.1)).2; omega
    have SY := Lib.hid sy
    clear q3 sy
    go_wp2_with fail
    refine (J.out w3 S0.out S1.out).mono ?_
    rintro e w4 ⟨Aj, nj, cj, rfl, sj, mj, -, q4⟩
    have S0 := Lib.hid (Sl.below S0.out q4)
    have S1 := Lib.hid (Sl.below S1.out q4)
    have DD := Lib.hid (DD.out.below q4)
    have BB := Lib.hid (BB.out.trans (q4.mono BB.out.size))
    have SX := Lib.hid (Sl.below SX.out q4)
    have SY := Lib.hid (Sl.below SY.out q4)
    have hnj : nj = len0 := by have h1 := SlI.len sj; have h2 : (joinL l0 l1).length = min l0.length l1.length := by simp [joinL]
                               omega
    subst hnj
    have SJ := Lib.hid sj
    have K := spanJoin_any Ax Ay nx ny cx cy (setL l0) (setL l1) w4 SX.out SY.out (by omega) (by omega) mx my
    rw [HP.out.2.2.1, HP.out.2.2.2] at K
    have K := Lib.hid K
    clear q4 sj J R0 R1
    go_wp2_with fail
    refine K.out.mono ?_
    rintro e w5 ⟨As, ns, cs, rfl, ss, ms, -, q5⟩
    have F := Lib.hid (show CovF w a0 a1 Ax Ay Aj As nj nj nx ny nj ns l0 l1 dx dy w5 from ⟨Sl.below S0.out q5, Sl.below S1.out q5, Sl.below SX.out q5, Sl.below SY.out q5, Sl.below SJ.out q5, ss, DD.out.below q5, BB.out.trans (q5.mono BB.out.size)⟩)
    clear q5 ss S0 S1 DD BB SX SY SJ K
    go_wp2_with fail
    have F := Lib.hid (show CovF w a0 a1 Ax Ay Aj As nj nj nx ny nj ns l0 l1 dx dy w5.drew from F.out.drewN 1)
    have c0 := F.out.2.2.2.2.2.2.1.1
    have c1 := F.out.2.2.2.2.2.2.1.2
    have wx' : -9223372036854775808 ≤ dx := (bounds_i64 wx).1
    obtain ⟨cv, hcv1, hcv2⟩ : ∃ cv, coversB l0 dx dy = cv ∧ hasB (setL l0) dx dy = cv := ⟨_, HC.out, rfl⟩
    have CR : ∀ W, SlS W Ax nx (setL l0) → Calls Try.prog 31 #[.slice Ax nx cx] W fun e w' => e = .returned (.bool true) ∧ Below W.heap.size W w' := fun W g => by
      have := spanRight_any Ax nx cx (setL l0) W g (by omega)
      rwa [HR.out] at this
    have CC : ∀ W, SlI W a0 nj l0 → Calls Try.prog 19 #[.slice a0 nj cap0, .agg #[.int .i64 dx, .int .i64 dy]] W fun e w' => e = .returned (.bool cv) ∧ Below W.heap.size W w' := fun W g => by
      have := covers_any a0 nj cap0 l0 dx dy W g hn0 wx'
      rwa [hcv1] at this
    have CH : ∀ W, SlS W Ax nx (setL l0) → Calls Try.prog 32 #[.slice Ax nx cx, .agg #[.int .i64 dx, .int .i64 dy]] W fun e w' => e = .returned (.bool cv) ∧ Below W.heap.size W w' := fun W g => by
      have := spanHas_any Ax nx cx (setL l0) dx dy W g (by omega)
      rwa [hcv2] at this
    have CS : ∀ W At nt ct, SlS W At nt (setL (joinL l0 l1)) → SlS W As ns (setL (joinL l0 l1)) → nt ≤ 140737488351232 → Calls Try.prog 27 #[.slice At nt ct, .slice As ns cs] W fun e w' => e = .returned (.bool true) ∧ ∃ k, w' = W.drewN k := fun W At nt ct g1 g2 g3 => by
      have := sameS_any At As nt ns ct cs _ _ W g1 g2 g3
      simpa using this
    have CR := Lib.hid CR
    have CC := Lib.hid CC
    have CH := Lib.hid CH
    have CS := Lib.hid CS
    have hjl : (setL (joinL l0 l1)).length ≤ 140737488351232 := by
      unfold setL
      split
      · have := setTo_len (joinL l0 l1) (joinL l0 l1).length
        have h2 : (joinL l0 l1).length = min l0.length l1.length := by simp [joinL]
        omega
      · simp
    clear hcv1 hcv2 wx wy HC wx'
    have HS := Lib.hid (CovC.of F.out)
    clear c0 c1 F
    go_region_held3 (fun w' => w'.cell? ⟨w.heap.size, 0, none⟩ = some (.int .i64 dx) ∧ w'.cell? ⟨w.heap.size, 1, none⟩ = some (.int .i64 dy) ∧ CovF w a0 a1 Ax Ay Aj As nj nj nx ny nj ns l0 l1 dx dy w')
      (first | exact HS.out | assumption)
      (first
        | (go_at_call 31; refine (CR.out _ (by exact CovF.vx (by assumption))).mono ?_; rintro e w6 ⟨rfl, q6⟩; have hS := CovC.step (by assumption) q6)
        | (go_at_call 19; refine (CC.out _ (by exact CovF.v0 (by assumption))).mono ?_; rintro e w6 ⟨rfl, q6⟩; have hS := CovC.step (by assumption) q6)
        | (go_at_call 32; refine (CH.out _ (by exact CovF.vx (by assumption))).mono ?_; rintro e w6 ⟨rfl, q6⟩; have hS := CovC.step (by assumption) q6)
        | (go_at_call 28; refine (set_any Aj nj cj (joinL l0 l1) _ (by exact CovF.vj (by assumption)) hn0).mono ?_; rintro e w6 ⟨At, nt, ct, rfl, st, mt, -, q6⟩; have hS := CovC.step (by assumption) q6; have hnt : nt ≤ 140737488351232 := by (have := SlS.len st; omega))
        | (go_at_call 27; refine (CS.out _ _ _ _ st (by exact CovF.vs (by assumption)) hnt).mono ?_; rintro e w7 ⟨rfl, d, rfl⟩; have hS := CovC.drewN (by assumption) d))
    have hq := (show CovC w a0 a1 Ax Ay Aj As nj nj nx ny nj ns l0 l1 dx dy _ by assumption)
    obtain ⟨-, -, g0, g1, gx, gy, gj, gs, gd, gb⟩ := hq
    have wfY : ∀ x ∈ setL l1, wfSp x := fun x hx => by
      have := (rightS_true.1 (set_right HP.out.2.1)).1.1 x hx
      unfold okSp at this
      have W1 : (Lit.int .i64 x.1).wf = true := by simp [Lit.wf, IntKind.min, IntKind.max, IntKind.signed, IntKind.bits]; omega
      have W2 : (Lit.int .i64 x.2.1).wf = true := by simp [Lit.wf, IntKind.min, IntKind.max, IntKind.signed, IntKind.bits]; omega
      have W3 : (Lit.int .i64 x.2.2).wf = true := by simp [Lit.wf, IntKind.min, IntKind.max, IntKind.signed, IntKind.bits]; omega
      exact ⟨W1, W2, W3⟩
    have HY := Lib.hid wfY
    clear wfY CR CC CH CS
    have hbw : withinS (setL l1) (setL l0) = holdsB l0 (setL l1) := HW.out.symm
    have hbb : withinS (setL l0) (setL l1) = belowJ l0 l1 := HB.out.symm
    go_wp2_with fail
    refine (holds_any a0 nj cap0 l0 Ay ny cy (setL l1) _ g0 hn0 gy (by omega) HY.out).mono ?_
    rintro e wa ⟨rfl, qa⟩
    have gx := Sl.below gx qa
    have gy := Sl.below gy qa
    have gj := Sl.below gj qa
    have g0 := Sl.below g0 qa
    have g1 := Sl.below g1 qa
    have gb := gb.trans (qa.mono gb.size)
    clear qa
    have C2 := spanWithin_any Ay Ax ny nx cy cx _ _ wa gy gx (by omega) (by omega)
    rw [hbw] at C2
    have C2 := Lib.hid C2
    go_wp2_with fail
    refine C2.out.mono ?_
    rintro e wb ⟨rfl, qb⟩
    have gx := Sl.below gx qb
    have gy := Sl.below gy qb
    have gj := Sl.below gj qb
    have g0 := Sl.below g0 qb
    have g1 := Sl.below g1 qb
    have gb := gb.trans (qb.mono gb.size)
    clear qb C2
    have C3 := holds_any Aj nj cj (joinL l0 l1) Ay ny cy (setL l1) wb gj hn0 gy (by omega) HY.out
    rw [HH.out] at C3
    have C3 := Lib.hid C3
    go_wp2_with fail
    refine C3.out.mono ?_
    rintro e wc ⟨rfl, qc⟩
    have gx := Sl.below gx qc
    have gy := Sl.below gy qc
    have g0 := Sl.below g0 qc
    have g1 := Sl.below g1 qc
    have gb := gb.trans (qc.mono gb.size)
    clear qc C3
    go_wp2_with fail
    refine (below_any a0 a1 nj nj cap0 cap1 l0 l1 wc g0 g1 hn0 hn0).mono ?_
    rintro e wd ⟨rfl, qd⟩
    have gx := Sl.below gx qd
    have gy := Sl.below gy qd
    have gb := gb.trans (qd.mono gb.size)
    clear qd
    have C4 := spanWithin_any Ax Ay nx ny cx cy _ _ wd gx gy (by omega) (by omega)
    rw [hbb] at C4
    have C4 := Lib.hid C4
    go_wp2_with fail
    refine C4.out.mono ?_
    rintro e we ⟨rfl, qe⟩
    have gb := gb.trans (qe.mono gb.size)
    clear qe C4
    go_wp2
    go_ret
    exact ⟨by simp, gb⟩
end Go.Proofs.Ytjjemoiblbehoaa
