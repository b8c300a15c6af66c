/-
  The walks of firthlaw04.VectJoins and firthlaw04.VectKeeps.
-/
import Derived.Test.YtjjemoiblbehoaaVectAwake
import Derived.Test.YtjjemoiblbehoaaVectBelow
import Derived.OpenShut
namespace Go.Proofs.Ytjjemoiblbehoaa
open Go.RowKit
set_option linter.unusedVariables false

/-- The list, and the error's number, that Join answers. -/
def joinV (a b : List Int) : List Int := if joinOk a b then joinL a b else []
def joinE (a b : List Int) : Int := if joinOk a b then 0 else 1
theorem joinV_len (a b : List Int) : (joinV a b).length ≤ a.length := by
  unfold joinV
  split
  · simp [joinL]; omega
  · simp

theorem joinV_any (A1 A2 : Option Addr) (n1 n2 c1 c2 : Nat) (l1 l2 : List Int) (w : World) (h1 : SlI w A1 n1 l1) (h2 : SlI w A2 n2 l2) (hn1 : n1 ≤ 140737488351232) (hn2 : n2 ≤ 140737488351232) :
    Calls Try.prog 10 #[.slice A1 n1 c1, .slice A2 n2 c2] w (NewVec w (joinV l1 l2) (joinE l1 l2)) := join_any A1 A2 n1 n2 c1 c2 l1 l2 w h1 h2 hn1 hn2
theorem refJoinV_any (A1 A2 : Option Addr) (n1 n2 c1 c2 : Nat) (l1 l2 : List Int) (w : World) (h1 : SlI w A1 n1 l1) (h2 : SlI w A2 n2 l2) (hn1 : n1 ≤ 140737488351232) (hn2 : n2 ≤ 140737488351232) :
    Calls Try.prog 11 #[.slice A1 n1 c1, .slice A2 n2 c2] w (NewVec w (joinV l1 l2) (joinE l1 l2)) := refJoin_any A1 A2 n1 n2 c1 c2 l1 l2 w h1 h2 hn1 hn2

set_option maxHeartbeats 400000 in
set_option maxRecDepth 100000 in
theorem vectJoins_walk (a0 : Option Addr) (len0 cap0 : Nat) (l0 : List Int) (a1 : Option Addr) (len1 cap1 : Nat) (l1 : List Int) (w : World)
    (s0 : SlI w a0 len0 l0) (f0 : ∀ z ∈ l0, (Lit.int .i64 z).wf = true) (b0 : len0 ≤ cap0) (z0 : cap0 * 8 ≤ 140737488351232) (s1 : SlI w a1 len1 l1) (f1 : ∀ z ∈ l1, (Lit.int .i64 z).wf = true) (b1 : len1 ≤ cap1) (z1 : cap1 * 8 ≤ 140737488351232) :
    Calls Try.prog 4 #[.slice a0 len0 cap0, .slice a1 len1 cap1] w fun e w' => e = .returned (.bool true) ∧ Below w.heap.size w w' := by
  have hn0 : len0 ≤ 140737488351232 := by omega
  have hn1 : len1 ≤ 140737488351232 := by omega
  have hl := joinV_len l0 l1
  have hl0 := s0.len
  clear f0 f1
  go_enter Try.func4, Try.ntmps4
  go_wp2_with fail
  refine (joinV_any a0 a1 len0 len1 cap0 cap1 l0 l1 w s0 s1 hn0 hn1).mono ?_
  rintro e w1 ⟨A3, n3, c3, rfl, s3, hc3, -, B1⟩
  have S0 := Sl.below s0 B1
  have S1 := Sl.below s1 B1
  have z1' := B1.size
  go_wp2_with fail
  refine (refJoinV_any a0 a1 len0 len1 cap0 cap1 l0 l1 w1 S0 S1 hn0 hn1).mono ?_
  rintro e w2 ⟨A4, n4, c4, rfl, s4, hc4, -, B2⟩
  have S3 := Sl.below s3 B2
  have S0 := Sl.below S0 B2
  have S1 := Sl.below S1 B2
  have B2 := B1.trans (B2.mono z1')
  have z2 := B2.size
  clear s3 B1
  go_wp2_with fail
  refine (awake_any w2).mono ?_
  rintro e w3 ⟨rfl, B3⟩
  have S3 := Sl.below S3 B3
  have S4 := Sl.below s4 B3
  have S0 := Sl.below S0 B3
  have S1 := Sl.below S1 B3
  have B3 := B2.trans (B3.mono z2)
  have z3 := B3.size
  have hn3 : n3 ≤ 140737488351232 := by have := SlI.len S3; omega
  clear s4 B2
  go_wp2_with fail
  refine (sameI_any A3 A4 n3 n4 c3 c4 _ _ w3 S3 S4 hn3).mono ?_
  rintro e w4 ⟨rfl, d, rfl⟩
  go_wp2_with fail
  refine (below_any a0 a1 len0 len1 cap0 cap1 l0 l1 _ (Sl.drewN S0 d) (Sl.drewN S1 d) hn0 hn1).mono ?_
  rintro e w5 ⟨rfl, B5⟩
  have S0 := Sl.below (Sl.drewN S0 d) B5
  have S1 := Sl.below (Sl.drewN S1 d) B5
  have B5 := (below_drewN B3 d).trans (B5.mono z3)
  go_wp2_with fail
  refine (refBelow_any a0 a1 len0 len1 cap0 cap1 l0 l1 w5 S0 S1 hn0 hn1).mono ?_
  rintro e w6 ⟨rfl, d', rfl⟩
  go_wp2
  go_ret
  exact ⟨by simp, below_drewN B5 d'⟩
end Go.Proofs.Ytjjemoiblbehoaa
