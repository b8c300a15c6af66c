/-
  firthlaw04.awake returns true.
-/
import Derived.Test.YtjjemoiblbehoaaVectJoin
import Derived.Test.YtjjemoiblbehoaaVectNext
import Derived.Test.YtjjemoiblbehoaaVectCov
namespace Go.Proofs.Ytjjemoiblbehoaa
open Go.RowKit
set_option linter.unusedVariables false

theorem SlI.lit (w : World) (cs : Array Value) (t : TypeId) (l : List Int) (g n : Nat) (hg : g = w.heap.size) (hn : n = l.length) (h : cs.toList = l.map (Value.int .i64)) : SlI (w.alloc (.cells cs t)) (some ⟨g, 0, none⟩) n l := by
  subst hg hn
  refine ⟨by simp, fun _ => ⟨w.heap.size, 0, rfl, fun j u hu => ?_⟩⟩
  rw [Nat.zero_add, cell_of_row _ w.heap.size j cs t (0, 0) (heap_alloc_new w _)]
  rw [← h] at hu
  simpa using hu

set_option maxHeartbeats 400000 in
set_option maxRecDepth 100000 in
theorem awake_any (w : World) : Calls Try.prog 9 #[] w fun e w' => e = .returned (.bool true) ∧ Below w.heap.size w w' := by
  have J := Lib.hid (show (if joinOk [1, 5] [4, 2] then joinL [1, 5] [4, 2] else []) = [4, 5] ∧ (if joinOk [1, 5] [4, 2] then (0 : Int) else 1) = 0 from ⟨by decide, by decide⟩)
  have N := Lib.hid (show nextOf [3, 0] 2 = (2, 1, 0) by decide)
  have V := Lib.hid (show coversB [4, 5] 1 4 = true by decide)
  have C1 := Lib.hid (join_any (some ⟨w.heap.size, 0, none⟩) (some ⟨w.heap.size + 1, 0, none⟩) 2 2 2 2 [1, 5] [4, 2] ((w.alloc (.cells #[.int .i64 1, .int .i64 5] 2)).alloc (.cells #[.int .i64 4, .int .i64 2] 2))
    (Sl.alloc (SlI.lit w #[.int .i64 1, .int .i64 5] 2 [1, 5] _ 2 rfl rfl rfl) _) (SlI.lit (w.alloc (.cells #[.int .i64 1, .int .i64 5] 2)) #[.int .i64 4, .int .i64 2] 2 [4, 2] _ 2 (by simp) rfl rfl) (by omega) (by omega))
  have B0 : Below w.heap.size w ((w.alloc (.cells #[.int .i64 1, .int .i64 5] 2)).alloc (.cells #[.int .i64 4, .int .i64 2] 2)) := ((Below.refl _ _).alloc (Nat.le_refl _) _).alloc (by simp) _
  go_enter Try.func9, Try.ntmps9
  go_wp2_with fail
  refine C1.out.mono ?_
  rw [J.out.1, J.out.2]
  rintro e w1 ⟨A1, n1, c1, rfl, s1, hc1, -, b1⟩
  have B1 := B0.trans (b1.mono B0.size)
  have z1 := B1.size
  obtain rfl : n1 = 2 := s1.len.symm
  clear C1 B0 b1 J
  have C2 := Lib.hid (next_any (some ⟨w1.heap.size, 0, none⟩) 2 2 [3, 0] 2 (w1.alloc (.cells #[.int .i64 3, .int .i64 0] 2)) (SlI.lit w1 #[.int .i64 3, .int .i64 0] 2 [3, 0] _ 2 rfl rfl rfl) (by omega))
  have D1 : Below w1.heap.size w1 (w1.alloc (.cells #[.int .i64 3, .int .i64 0] 2)) := (Below.refl _ _).alloc (Nat.le_refl _) _
  go_wp2_with fail
  refine C2.out.mono ?_
  rw [N.out]
  rintro e w2 ⟨rfl, b2⟩
  have D2 := D1.trans (b2.mono D1.size)
  have B2 := B1.trans (D2.mono z1)
  have s2 := Sl.below s1 D2
  have z2 := B2.size
  clear C2 D1 b2 N D2 s1 B1
  have D3 : Below w2.heap.size w2 ((w2.alloc (.cells #[.int .i64 2, .int .i64 1] 31)).alloc (.cells #[.int .i64 4, .int .i64 5] 2)) := ((Below.refl _ _).alloc (Nat.le_refl _) _).alloc (by simp) _
  have C3 := Lib.hid (sameI_any A1 (some ⟨w2.heap.size + 1, 0, none⟩) 2 2 c1 2 [4, 5] [4, 5] ((w2.alloc (.cells #[.int .i64 2, .int .i64 1] 31)).alloc (.cells #[.int .i64 4, .int .i64 5] 2)) (Sl.below s2 D3)
    (SlI.lit (w2.alloc (.cells #[.int .i64 2, .int .i64 1] 31)) #[.int .i64 4, .int .i64 5] 2 [4, 5] _ 2 (by simp) rfl rfl) (by omega))
  have C4 := Lib.hid (fun d => covers_any A1 2 c1 [4, 5] 1 4 (((w2.alloc (.cells #[.int .i64 2, .int .i64 1] 31)).alloc (.cells #[.int .i64 4, .int .i64 5] 2)).drewN d) (Sl.drewN (Sl.below s2 D3) d) (by omega) (by omega))
  go_wp2_with fail
  refine C3.out.mono ?_
  rintro e w3 ⟨rfl, d, rfl⟩
  have B3 := below_drewN (B2.trans (D3.mono z2)) d
  have z3 := Lib.hid B3.size
  clear C3 D3 s2 B2
  go_wp2_with fail
  refine (C4.out d).mono ?_
  rw [V.out]
  rintro e w4 ⟨rfl, b4⟩
  go_wp2
  go_ret
  exact ⟨by simp, B3.trans (b4.mono z3.out)⟩
end Go.Proofs.Ytjjemoiblbehoaa
