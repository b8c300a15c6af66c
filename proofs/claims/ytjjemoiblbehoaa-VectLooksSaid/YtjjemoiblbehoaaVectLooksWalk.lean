/-
  The walk of firthlaw04.VectLooks.
-/
import Derived.Test.YtjjemoiblbehoaaVectAwake
import Derived.Test.YtjjemoiblbehoaaVectHolds
import Derived.OpenShut
namespace Go.Proofs.Ytjjemoiblbehoaa
open Go.RowKit
set_option linter.unusedVariables false

/-- What stays over the calls of the law: the arguments, and that nothing that was there has turned. -/
def LooksRest (w0 : World) (A : Option Addr) (n : Nat) (l : List Int) (A2 : Option Addr) (n2 : Nat) (l2 : List Sp) (w : World) : Prop := SlI w A n l ∧ SlS w A2 n2 l2 ∧ Below w0.heap.size w0 w
theorem looks_step {w0 w w1 : World} {g : Nat} {x y : Int} {A : Option Addr} {n : Nat} {l : List Int} {A2 : Option Addr} {n2 : Nat} {l2 : List Sp} (b : Below w.heap.size w w1)
    (h : w.cell? ⟨g, 0, none⟩ = some (.int .i64 x) ∧ w.cell? ⟨g, 1, none⟩ = some (.int .i64 y) ∧ LooksRest w0 A n l A2 n2 l2 w) :
    w1.cell? ⟨g, 0, none⟩ = some (.int .i64 x) ∧ w1.cell? ⟨g, 1, none⟩ = some (.int .i64 y) ∧ LooksRest w0 A n l A2 n2 l2 w1 :=
  ⟨(b.cell (World.block_lt_of_cell? w _ h.1)).trans h.1, (b.cell (World.block_lt_of_cell? w _ h.2.1)).trans h.2.1, Sl.below h.2.2.1 b, Sl.below h.2.2.2.1 b, h.2.2.2.2.trans (b.mono h.2.2.2.2.size)⟩

theorem LooksRest.v {w0 w : World} {g : Nat} {x y : Int} {A : Option Addr} {n : Nat} {l : List Int} {A2 : Option Addr} {n2 : Nat} {l2 : List Sp}
    (h : w.cell? ⟨g, 0, none⟩ = some (.int .i64 x) ∧ w.cell? ⟨g, 1, none⟩ = some (.int .i64 y) ∧ LooksRest w0 A n l A2 n2 l2 w) : SlI w A n l := h.2.2.1
theorem LooksRest.b {w0 w : World} {g : Nat} {x y : Int} {A : Option Addr} {n : Nat} {l : List Int} {A2 : Option Addr} {n2 : Nat} {l2 : List Sp}
    (h : w.cell? ⟨g, 0, none⟩ = some (.int .i64 x) ∧ w.cell? ⟨g, 1, none⟩ = some (.int .i64 y) ∧ LooksRest w0 A n l A2 n2 l2 w) : Below w0.heap.size w0 w := h.2.2.2.2
theorem LooksRest.s {w0 w : World} {g : Nat} {x y : Int} {A : Option Addr} {n : Nat} {l : List Int} {A2 : Option Addr} {n2 : Nat} {l2 : List Sp}
    (h : w.cell? ⟨g, 0, none⟩ = some (.int .i64 x) ∧ w.cell? ⟨g, 1, none⟩ = some (.int .i64 y) ∧ LooksRest w0 A n l A2 n2 l2 w) : SlS w A2 n2 l2 := h.2.2.2.1

set_option maxHeartbeats 1000000 in
set_option maxRecDepth 100000 in
theorem vectLooks_walk (a0 : Option Addr) (len0 cap0 : Nat) (l0 : List Int) (dx dy : Int) (a2 : Option Addr) (len2 cap2 : Nat) (l2 : List Sp) (w : World)
    (s0 : SlI w a0 len0 l0) (f0 : ∀ z ∈ l0, (Lit.int .i64 z).wf = true) (b0 : len0 ≤ cap0) (z0 : cap0 * 8 ≤ 140737488351232) (wx : (Lit.int .i64 dx).wf = true) (wy : (Lit.int .i64 dy).wf = true)
    (s2 : SlS w a2 len2 l2) (f2 : ∀ x ∈ l2, wfSp x) (b2 : len2 ≤ cap2) (z2 : cap2 * 24 ≤ 140737488351232) :
    Calls Try.prog 5 #[.slice a0 len0 cap0, .agg #[.int .i64 dx, .int .i64 dy], .slice a2 len2 cap2] w fun e w' => e = .returned (.bool true) ∧ Below w.heap.size w w' := by
  have hn0 : len0 ≤ 140737488351232 := by omega
  have hn2 : len2 ≤ 140737488351232 := by omega
  have hb := bounds_i64 wx
  have F2 := Lib.hid f2
  obtain ⟨W, hW⟩ : ∃ W, W = w.alloc (.cells #[.int .i64 dx, .int .i64 dy] 31) := ⟨_, rfl⟩
  have hstart : W.drew.cell? ⟨w.heap.size, 0, none⟩ = some (.int .i64 dx) ∧ W.drew.cell? ⟨w.heap.size, 1, none⟩ = some (.int .i64 dy) ∧ LooksRest w a0 len0 l0 a2 len2 l2 W.drew := by
    subst hW
    exact ⟨by show World.cell? (w.alloc _) _ = _; rw [cell_of_row _ w.heap.size 0 _ _ (0, 0) (heap_alloc_new w _)]; rfl, by show World.cell? (w.alloc _) _ = _; rw [cell_of_row _ w.heap.size 1 _ _ (0, 0) (heap_alloc_new w _)]; rfl,
      Sl.drew (Sl.alloc s0 _), Sl.drew (Sl.alloc s2 _), ((Below.refl _ _).alloc (Nat.le_refl _) _).drew⟩
  subst hW
  have HS := Lib.hid hstart
  clear f0 f2 wx wy hstart s0 s2
  go_enter Try.func5, Try.ntmps5
  go_wp2_with fail
  go_region_held3 (fun w' => w'.cell? ⟨w.heap.size, 0, none⟩ = some (.int .i64 dx) ∧ w'.cell? ⟨w.heap.size, 1, none⟩ = some (.int .i64 dy) ∧ LooksRest w a0 len0 l0 a2 len2 l2 w')
    (first | exact HS.out | assumption)
    (first
      | (go_at_call 9; refine (awake_any _).mono ?_; rintro e w1 ⟨rfl, b1⟩; have hS := looks_step b1 (by assumption))
      | (go_at_call 15; refine (right_any _ _ _ l0 _ (by exact LooksRest.v (by assumption)) hn0).mono ?_; rintro e w1 ⟨rfl, rfl⟩)
      | (go_at_call 16; refine (refRight_any _ _ _ l0 _ (by exact LooksRest.v (by assumption)) hn0).mono ?_; rintro e w1 ⟨rfl, rfl⟩)
      | (go_at_call 17; refine (at_any _ _ _ l0 _ _ (by exact LooksRest.v (by assumption)) hn0).mono ?_; rintro e w1 ⟨rfl, rfl⟩)
      | (go_at_call 18; refine (refAt_any _ _ _ l0 _ _ (by exact LooksRest.v (by assumption)) hn0 hb.1 hb.2).mono ?_; rintro e w1 ⟨rfl, rfl⟩)
      | (go_at_call 19; refine (covers_any _ _ _ l0 _ _ _ (by exact LooksRest.v (by assumption)) hn0 hb.1).mono ?_; rintro e w1 ⟨rfl, b1⟩; have hS := looks_step b1 (by assumption))
      | (go_at_call 20; refine (refCovers_any _ _ _ l0 _ _ _ (by exact LooksRest.v (by assumption)) hn0 hb.1 hb.2).mono ?_; rintro e w1 ⟨rfl, b1⟩; have hS := looks_step b1 (by assumption))
      | (go_at_call 21; refine (holds_any _ _ _ l0 _ _ _ l2 _ (by exact LooksRest.v (by assumption)) hn0 (by exact LooksRest.s (by assumption)) hn2 F2.out).mono ?_; rintro e w1 ⟨rfl, b1⟩; have hS := looks_step b1 (by assumption))
      | (go_at_call 22; refine (refHolds_any _ _ _ l0 _ _ _ l2 _ (by exact LooksRest.v (by assumption)) hn0 (by exact LooksRest.s (by assumption)) hn2 F2.out).mono ?_; rintro e w1 ⟨rfl, b1⟩; have hS := looks_step b1 (by assumption)))
  all_goals go_wp2
  all_goals go_ret
  all_goals exact ⟨by simp, LooksRest.b (by assumption)⟩
end Go.Proofs.Ytjjemoiblbehoaa
