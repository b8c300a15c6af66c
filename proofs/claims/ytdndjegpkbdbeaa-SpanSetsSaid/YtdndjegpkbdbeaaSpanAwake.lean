/-
  firthlaw03.awake returns true.
-/
import Derived.Test.YtdndjegpkbdbeaaSpanAdd
import Derived.Test.YtdndjegpkbdbeaaSpanSize
import Derived.Test.YtdndjegpkbdbeaaSpanHas
namespace Go.Proofs.Ytdndjegpkbdbeaa
open Go.RowKit
set_option linter.unusedVariables false

theorem rightS_lit {l : List Sp} (h1 : ∀ x ∈ l, okSp x) (h2 : l.Pairwise gap) (h3 : l.length ≤ 1024) : rightS l = true := rightS_true.2 ⟨⟨h1, h2⟩, h3⟩
theorem ok_lit (s a b : Int) (h : 1 ≤ s ∧ s ≤ 16 ∧ 1 ≤ a ∧ a ≤ b ∧ b ≤ 4611686018427387904) : okSp (s, a, b) := h
theorem awake_r1 : rightS [(1, 1, 3), (1, 5, 6)] = true :=
  rightS_lit (fun x hx => by
    simp only [List.mem_cons, List.mem_nil_iff, or_false] at hx
    rcases hx with rfl | rfl
    · exact ok_lit _ _ _ (by omega)
    · exact ok_lit _ _ _ (by omega)) (by simp [gap]) (by simp)
theorem rightS_one (s n : Int) (h : dotB s n = true) : rightS [(s, n, n)] = true := by
  have := dotB_true.1 h
  exact rightS_lit (fun x hx => by rw [List.mem_singleton] at hx; subst hx; exact ok_lit _ _ _ (by omega)) (by simp) (by simp)
theorem awake_d : dotB 1 4 = true := dotB_true.2 (by omega)
theorem awake_m : mergeL [(1, 1, 3), (1, 5, 6)] [(1, 4, 4)] = [(1, 1, 6)] := by decide
theorem awake_j : addSL [(1, 1, 3), (1, 5, 6)] 1 4 = [(1, 1, 6)] ∧ addSE [(1, 1, 3), (1, 5, 6)] 1 4 = 0 := by
  obtain ⟨h1, h2⟩ := addS_yes (l := [(1, 1, 3), (1, 5, 6)]) awake_d
  obtain ⟨h3, h4⟩ := joinS_yes awake_r1 (rightS_one 1 4 awake_d) (by rw [awake_m]; simp)
  rw [h1, h2, h3, h4]
  exact ⟨awake_m, rfl⟩
theorem awake_r : rightS [(1, 1, 6)] = true := rightS_lit (fun x hx => by rw [List.mem_singleton] at hx; subst hx; exact ok_lit _ _ _ (by omega)) (by simp) (by simp)
theorem awake_h : hasB [(1, 1, 6)] 1 4 = true := hasB_true.2 ⟨_, List.mem_singleton.2 rfl, rfl, by simp, by simp⟩
theorem awake_s : sizeS [(1, 1, 6)] = 6 := by rw [sizeS_right awake_r]; rfl

theorem sl_lit (w : World) (cs : Array Value) (t : TypeId) (l : List Sp) (g n : Nat) (hg : g = w.heap.size) (hn : n = l.length) (h : cs.toList = spV l) : SlS (w.alloc (.cells cs t)) (some ⟨g, 0, none⟩) n l := by
  subst hg hn
  refine ⟨spV_length l, fun _ => ⟨w.heap.size, 0, rfl, fun j u hu => ?_⟩⟩
  rw [Nat.zero_add, cell_of_row _ w.heap.size j cs t (0, 0) (heap_alloc_new w _)]
  rw [← h] at hu
  simpa using hu

set_option maxHeartbeats 400000 in
set_option maxRecDepth 100000 in
theorem awakeS_any (w : World) : Calls Try.prog 12 #[] w fun e w' => e = .returned (.bool true) ∧ Below w.heap.size w w' := by
  have HA := spanAdd_any (some ⟨w.heap.size, 0, none⟩) 2 2 [(1, 1, 3), (1, 5, 6)] 1 4 (w.alloc (.cells #[.int .i64 1, .int .i64 1, .int .i64 3, .int .i64 1, .int .i64 5, .int .i64 6] 37))
    (sl_lit w _ _ _ _ 2 rfl rfl rfl) (by omega) (by omega)
  rw [awake_j.1, awake_j.2] at HA
  have C1 := Lib.hid HA
  have B0 : Below w.heap.size w (w.alloc (.cells #[.int .i64 1, .int .i64 1, .int .i64 3, .int .i64 1, .int .i64 5, .int .i64 6] 37)) := (Below.refl _ _).alloc (Nat.le_refl _) _
  clear HA
  go_enter Try.func12, Try.ntmps12
  go_wp2_with fail
  refine C1.out.mono ?_
  rintro e w1 ⟨A1, n1, c1, rfl, s1, hc1, -, b1⟩
  have B1 := B0.trans (b1.mono B0.size)
  have z1 := B1.size
  obtain rfl : n1 = 1 := s1.len.symm
  clear C1 B0 b1
  have D1 : Below w1.heap.size w1 (w1.alloc (.cells #[.int .i64 1, .int .i64 1, .int .i64 6] 37)) := (Below.refl _ _).alloc (Nat.le_refl _) _
  have C2 := Lib.hid (sameS_any A1 (some ⟨w1.heap.size, 0, none⟩) 1 1 c1 1 [(1, 1, 6)] [(1, 1, 6)] _ (Sl.below s1 D1) (sl_one w1 1 1 6 37) (by omega))
  have B2 := B1.trans (D1.mono z1)
  have s2 := Sl.below s1 D1
  clear s1 B1 D1
  go_wp2_with fail
  refine C2.out.mono ?_
  rintro e w2 ⟨rfl, d, rfl⟩
  have B3 := below_drewN B2 d
  have s3 := Sl.drewN s2 d
  have z3 := B3.size
  have C3 := spanRight_any A1 1 c1 [(1, 1, 6)] _ s3 (by omega)
  rw [awake_r] at C3
  have C3 := Lib.hid C3
  clear B2 s2 C2
  go_wp2_with fail
  refine C3.out.mono ?_
  rintro e w3 ⟨rfl, b3⟩
  have B4 := B3.trans (b3.mono z3)
  have s4 := Sl.below s3 b3
  have z4 := B4.size
  have C4 := spanHas_any A1 1 c1 [(1, 1, 6)] 1 4 _ s4 (by omega)
  rw [awake_h] at C4
  have C4 := Lib.hid C4
  clear B3 s3 C3 b3
  go_wp2_with fail
  refine C4.out.mono ?_
  rintro e w4 ⟨rfl, b4⟩
  have B5 := B4.trans (b4.mono z4)
  have s5 := Sl.below s4 b4
  have z5 := B5.size
  have C5 := spanSize_any A1 1 c1 [(1, 1, 6)] _ s5 (by omega)
  rw [awake_s] at C5
  have C5 := Lib.hid C5
  clear B4 s4 C4 b4
  go_wp2_with fail
  refine C5.out.mono ?_
  rintro e w5 ⟨rfl, b5⟩
  go_wp2
  go_ret
  exact ⟨by simp, B5.trans (b5.mono z5)⟩
end Go.Proofs.Ytdndjegpkbdbeaa
