/-
  A loop over an iterator whose rounds never leave it, where the iterator says of each element what lies in memory as it hands it over.
-/
import Derived.Test.YtoeeiancbiaajaaBase
import Derived.RangeFuncNested
import Derived.RangeFuncBound
import Derived.RangeFuncCalls
import Derived.RangeFuncLeaves
import Derived.RangeFuncBox
import Derived.Shelf.Abstract
namespace Go.Proofs.Ytoeeiancbiaajaa
open Go.RowKit Go.Shelf
set_option linter.unusedVariables false
variable {F : Fence} {n : Nat} {P : Program}

/-- A block at or beyond B that holds no cells. -/
def Book (B : Nat) (W : World) (l : Nat) : Prop := B ≤ l ∧ ∃ o : Obj, W.heap[l]? = some o ∧ o.isCells = false
/-- A step of the iterator's own: new blocks, and one of the rows that it may write. -/
def Own1 (Rw : Nat → Prop) (W W' : World) : Prop := ∃ row, W.grownBy W' row ∧ ∀ r, row = some r → Rw r

theorem wpIn_rangeFunc_seen {α : Type} {g : Operand} {ps : Array Tmp} {assign body : Code} {Q : Exit → Act → World → Prop} {a : Act} {w : World}
    (hro : F.round = none) (h1 : 1 ≤ n) {gf : Nat} {lb : Array Value} (hg : a.eval g = .func (.func gf) #[] lb) (hFg : F.fn gf) (eg : ∀ args w, (callFunc gf args).run P w = .ok (.enter gf args) w)
    (encs : α → Array Value) (hps : ∀ x, (encs x).size = ps.size)
    (Kp : World → World → Prop) (hKt : ∀ {A B C : World}, Kp A B → Kp B C → Kp A C) (hKb : ∀ (W : World) (l : Nat) (o : Obj), w.heap.size ≤ l → Kp W (W.putObj l o))
    (I : List α → World → Prop) (Ok : List α → α → World → Prop) (Fin : List α → World → Prop) (Rw : Nat → Prop) (hRw : ∀ r, Rw r → r < w.heap.size)
    (hIb : ∀ xs W l o, I xs W → Book w.heap.size W l → I xs (W.putObj l o)) (hOb : ∀ pre x W l o, Ok pre x W → Book w.heap.size W l → Ok pre x (W.putObj l o)) (hFb : ∀ xs W l o, Fin xs W → Book w.heap.size W l → Fin xs (W.putObj l o))
    (hIr : ∀ xs W W', I xs W → Own1 Rw W W' → I xs W') (h0 : I [] w)
    (hseq : ∀ (l : Nat) (J : List α → World → Prop) (W : World), w.grownBy W none → (∀ xs W W', J xs W → Own1 Rw W W' → J xs W') →
      (∀ pre x W1, J pre W1 → Ok pre x W1 → YieldAt F (n - 1 - 1) P l (encs x) W1 fun e W' => e = .returned (.bool true) ∧ J (pre ++ [x]) W' ∧ Kp W1 W') →
      J [] W → CallsIn F (n - 1) P gf (#[.func (.yield l) #[] #[]] ++ lb) W fun e W' => (∃ v, e = .returned v) ∧ ∃ xs, J xs W' ∧ Fin xs W')
    (a₁ : α → Act)
    (hassign : ∀ (l : Nat) (x : α) (W : World) (K : Act → World → Prop), K (a₁ x) W →
      assign.wpIn (F.inRound l) (n - 1 - 1) P (Exit.then K (fun _ _ _ => False)) { tmps := (ps.zip (encs x)).foldl (fun t (p, v) => t.setIfInBounds p v) a.tmps, defers := [] } W)
    (hbody : ∀ (l : Nat) (pre : List α) (x : α) (W : World), I pre W → Ok pre x W → body.wpIn (F.inRound l) (n - 1 - 1) P (fun e _ W' => e = .normal ∧ KeepsOthers W W' ∧ Kp W W' ∧ I (pre ++ [x]) W') (a₁ x) W)
    (hdone : ∀ (D : Nat) (xs : List α) (W : World), w.heap.size ≤ D → I xs W → Fin xs W → W.heap[D]? = some (.deferred (some [])) → Q .normal { a with defers := { target := .collected D, args := #[] } :: a.defers } W) :
    (Code.rangeFunc g ps assign body).wpIn F n P Q a w := by
  refine wpIn_rangeFunc fun fn hfn => ?_
  rw [hro]
  let rec_ : LoopState → Loop := fun st => { state := st, pending := none, fn, tmps := a.tmps, params := ps, assign, body, defers := w.heap.size }
  have g1 : w.grownBy (w.alloc (.deferred (some []))) none := World.grownBy_alloc w _ none
  have g2 : w.grownBy ((w.alloc (.deferred (some []))).alloc (.loop (rec_ .ready))) none := g1.trans (World.grownBy_alloc _ _ none)
  have hL : ((w.alloc (.deferred (some []))).alloc (.loop (rec_ .ready))).heap[w.heap.size + 1]? = some (.loop (rec_ .ready)) := by
    have := World.alloc_heap_new (w.alloc (.deferred (some []))) (.loop (rec_ .ready))
    rwa [World.size_alloc] at this
  have hD : ((w.alloc (.deferred (some []))).alloc (.loop (rec_ .ready))).heap[w.heap.size]? = some (.deferred (some [])) :=
    (Below.heap_alloc _ _ _ (by simp)).trans (World.alloc_heap_new w _)
  generalize hW : (w.alloc (.deferred (some []))).alloc (.loop (rec_ .ready)) = W1 at g2 hL hD
  refine ⟨w.heap.size + 1, [{ target := .collected w.heap.size, args := #[] }], W1, { target := .fn (.func gf) lb, args := #[.func (.yield (w.heap.size + 1)) #[] #[]] }, W1, gf, #[.func (.yield (w.heap.size + 1)) #[] #[]] ++ lb, W1, ?_, ?_, ?_, ?_, fun _ => h1, ?_⟩
  · rw [← hW]; exact run_enterLoop_outer _ _ _ _ _
  · simp only [resolve, hg]
    simp [go_sem]
  · intro f' hf'
    simp [Target.leads] at hf'
    subst hf'
    exact hFg
  · simp [invoke, go_sem, eg]
  · refine (hseq (w.heap.size + 1) (fun xs W => I xs W ∧ W.heap[w.heap.size + 1]? = some (.loop (rec_ .ready)) ∧ W.heap[w.heap.size]? = some (.deferred (some []))) W1 g2 ?_ ?_ ?_).mono ?_
    · rintro xs A B ⟨i, l, d⟩ ⟨row, hgr, hrow⟩
      have stay : ∀ k o, w.heap.size ≤ k → A.heap[k]? = some o → B.heap[k]? = some o := fun k o hk ho =>
        (hgr.block k (Array.getElem?_eq_some_iff.1 ho).1 (fun e => by have := hRw k (hrow k e.symm); omega)).trans ho
      exact ⟨hIr xs A B i ⟨row, hgr, hrow⟩, stay _ _ (by omega) l, stay _ _ (Nat.le_refl _) d⟩
    · rintro pre x W ⟨i, l, d⟩ ok
      have lt := (Array.getElem?_eq_some_iff.1 l).1
      have bk : ∀ (W : World) st, W.heap[w.heap.size + 1]? = some (.loop (rec_ st)) → Book w.heap.size W (w.heap.size + 1) := fun W st h => ⟨by omega, _, h, rfl⟩
      refine ⟨fn, _, assign, body, run_yield (r := rec_ .ready) l (hps x), roundIn_of_wpIn hfn (hassign _ x W _ ⟨_, run_beginRound l rfl, ?_⟩)⟩
      have l2 : (W.putObj (w.heap.size + 1) (.loop { rec_ .ready with state := .busy })).heap[w.heap.size + 1]? = some (.loop (rec_ .busy)) := World.putObj_heap_same lt
      have d2 : (W.putObj (w.heap.size + 1) (.loop { rec_ .ready with state := .busy })).heap[w.heap.size]? = some (.deferred (some [])) := (World.putObj_heap_other (by omega)).trans d
      refine wpIn_mono (hbody _ pre x _ (hIb _ _ _ _ i (bk W _ l)) (hOb _ _ _ _ _ ok (bk W _ l))) ?_
      rintro e a3 W3 ⟨rfl, ko, kp, i3⟩
      have l3 := ko.same _ _ l2 rfl
      have d3 := ko.same _ _ d2 rfl
      refine ⟨_, _, run_endRound none l3, rfl, ⟨hIb _ _ _ _ i3 (bk _ _ l3), World.putObj_heap_same (Array.getElem?_eq_some_iff.1 l3).1, (World.putObj_heap_other (by omega)).trans d3⟩, ?_⟩
      exact hKt (hKt (hKb W _ _ (by omega)) kp) (hKb _ _ _ (by omega))
    · exact ⟨hIr _ _ _ h0 ⟨none, g2, fun r h => by cases h⟩, hL, hD⟩
    · rintro e W2 ⟨⟨v, rfl⟩, xs, ⟨i, l, d⟩, fin⟩
      have bk : Book w.heap.size W2 (w.heap.size + 1) := ⟨by omega, _, l, rfl⟩
      exact ⟨none, _, run_endLoop l (by simp [rec_]), hdone _ xs _ (Nat.le_refl _) (hIb _ _ _ _ i bk) (hFb _ _ _ _ fin bk) ((World.putObj_heap_other (by omega)).trans d)⟩
end Go.Proofs.Ytoeeiancbiaajaa
