/-
  firthref08.Same of a packet and itself; pair.
-/
import Derived.Test.YtcdbpimpmhfkhaaNetGet
namespace Go.Proofs.Ytcdbpimpmhfkhaa
open Go.RowKit
set_option linter.unusedVariables false

theorem Try.cellsPk : Try.prog.cellsOf 32 = 5 := by kernel_rfl
set_option maxHeartbeats 2000000 in
theorem same_true (p : Pk) (A1 A2 : Option Addr) (n1 c1 n2 c2 : Nat) (w : World) (h1 : SlB w A1 n1 p.d) (h2 : SlB w A2 n2 p.d) :
    Calls Try.prog 13 #[.agg #[.int .i64 p.fs, .int .i64 p.fn, .int .i64 p.ts, .int .i64 p.tn, .slice A1 n1 c1], .agg #[.int .i64 p.fs, .int .i64 p.fn, .int .i64 p.ts, .int .i64 p.tn, .slice A2 n2 c2]] w fun e w' => e = .returned (.bool true) ∧ Below w.heap.size w w' := by
  have q1 := run_convert_SlB (P := Try.prog) (Sl.alloc (Sl.alloc h1 (.cells #[.int .i64 p.fs, .int .i64 p.fn, .int .i64 p.ts, .int .i64 p.tn, .slice A1 n1 c1] 32)) (.cells #[.int .i64 p.fs, .int .i64 p.fn, .int .i64 p.ts, .int .i64 p.tn, .slice A2 n2 c2] 32)) 30 5 9 Try.underlying30 Try.underlying5 Try.underlying9 c1
  have q2 := run_convert_SlB (P := Try.prog) (Sl.alloc (Sl.alloc h2 (.cells #[.int .i64 p.fs, .int .i64 p.fn, .int .i64 p.ts, .int .i64 p.tn, .slice A1 n1 c1] 32)) (.cells #[.int .i64 p.fs, .int .i64 p.fn, .int .i64 p.ts, .int .i64 p.tn, .slice A2 n2 c2] 32)) 30 5 9 Try.underlying30 Try.underlying5 Try.underlying9 c2
  clear h1 h2
  go_enter Try.func13, Try.ntmps13
  go_wp2
  go_ret
  exact ⟨retb (by simp), ((Below.refl _ w).alloc (Nat.le_refl _) _).alloc (by simp) _⟩
/-- Two places, whichever comes first. -/
def pairK (as_ an bs bn : Int) : K4 := if bs < as_ ∨ bs = as_ ∧ bn < an then ⟨bs, bn, as_, an⟩ else ⟨as_, an, bs, bn⟩
theorem pairK_wf {as_ an bs bn : Int} (h1 : (Lit.int .i64 as_).wf = true) (h2 : (Lit.int .i64 an).wf = true) (h3 : (Lit.int .i64 bs).wf = true) (h4 : (Lit.int .i64 bn).wf = true) : (pairK as_ an bs bn).wf := by
  unfold pairK
  split
  · exact ⟨h3, h4, h1, h2⟩
  · exact ⟨h1, h2, h3, h4⟩
theorem Try.infoKeySize : (Try.prog.info? 68).map (·.size) = some 4 := by kernel_rfl
theorem alloc3_new (w : World) (x y z : Obj) : (((w.alloc x).alloc y).alloc z).heap[w.heap.size + 1 + 1]? = some z := by
  have := heap_alloc_new ((w.alloc x).alloc y) z
  simpa using this
theorem alloc3_below (w : World) (x y z : Obj) : Below w.heap.size w (((w.alloc x).alloc y).alloc z) := (((Below.refl _ w).alloc (Nat.le_refl _) _).alloc (by simp) _).alloc (by simp; omega) _
def PairAns (w : World) (k : K4) (e : Ending) (w' : World) : Prop := e = .returned k.v ∧ Below w.heap.size w w'
set_option maxHeartbeats 2000000 in
theorem pair_any (as_ an bs bn : Int) (w : World) :
    Calls Try.prog 30 #[.agg #[.int .i64 as_, .int .i64 an], .agg #[.int .i64 bs, .int .i64 bn]] w (PairAns w (pairK as_ an bs bn)) := by
  by_cases h1 : bs < as_
  · have E : pairK as_ an bs bn = ⟨bs, bn, as_, an⟩ := by unfold pairK; rw [if_pos (.inl h1)]
    rw [E]
    clear E
    go_enter Try.func30, Try.ntmps30
    go_wp2
    refine bodyPost_ret (results_cell_row rfl _ _ (w.heap.size + 1 + 1) 68 #[.int .i64 bs, .int .i64 bn, .int .i64 as_, .int .i64 an] (0, 0) _ rfl (alloc3_new _ _ _ _) Try.underlying68 rfl Try.infoKeySize) rfl ?_
    exact ⟨rfl, alloc3_below _ _ _ _⟩
  · have q1 : decide (bs < as_) = false := by simpa using h1
    by_cases h2 : bs = as_
    · subst h2
      by_cases h3 : bn < an
      · have E : pairK bs an bs bn = ⟨bs, bn, bs, an⟩ := by unfold pairK; rw [if_pos (.inr ⟨rfl, h3⟩)]
        rw [E]
        clear E
        go_enter Try.func30, Try.ntmps30
        go_wp2
        refine bodyPost_ret (results_cell_row rfl _ _ (w.heap.size + 1 + 1) 68 #[.int .i64 bs, .int .i64 bn, .int .i64 bs, .int .i64 an] (0, 0) _ rfl (alloc3_new _ _ _ _) Try.underlying68 rfl Try.infoKeySize) rfl ?_
        exact ⟨rfl, alloc3_below _ _ _ _⟩
      · have q3 : decide (bn < an) = false := by simpa using h3
        have E : pairK bs an bs bn = ⟨bs, an, bs, bn⟩ := by unfold pairK; rw [if_neg (by omega)]
        rw [E]
        clear E h1
        go_enter Try.func30, Try.ntmps30
        go_wp2
        refine bodyPost_ret (results_cell_row rfl _ _ (w.heap.size + 1 + 1) 68 #[.int .i64 bs, .int .i64 an, .int .i64 bs, .int .i64 bn] (0, 0) _ rfl (alloc3_new _ _ _ _) Try.underlying68 rfl Try.infoKeySize) rfl ?_
        exact ⟨rfl, alloc3_below _ _ _ _⟩
    · have q2 : (bs == as_) = false := by simpa using h2
      have E : pairK as_ an bs bn = ⟨as_, an, bs, bn⟩ := by unfold pairK; rw [if_neg (by omega)]
      rw [E]
      clear E h1 h2
      go_enter Try.func30, Try.ntmps30
      go_wp2
      refine bodyPost_ret (results_cell_row rfl _ _ (w.heap.size + 1 + 1) 68 #[.int .i64 as_, .int .i64 an, .int .i64 bs, .int .i64 bn] (0, 0) _ rfl (alloc3_new _ _ _ _) Try.underlying68 rfl Try.infoKeySize) rfl ?_
      exact ⟨rfl, alloc3_below _ _ _ _⟩
end Go.Proofs.Ytcdbpimpmhfkhaa
