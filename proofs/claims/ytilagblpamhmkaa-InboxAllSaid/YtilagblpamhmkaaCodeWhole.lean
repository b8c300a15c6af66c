/-
  firth/code.whole at a list of spans: the deferred closure that takes a panic up, and code.Set.
-/
import Derived.Test.YtilagblpamhmkaaMB
import Derived.Defers
import Derived.Recover
namespace Go.Proofs.Ytilagblpamhmkaa
open Go.RowKit
set_option linter.unusedVariables false

/-- What Set answers. -/
def SetAns (w : World) (o : Option (List Sp)) (e : Ending) (w' : World) : Prop :=
  match o with
  | some l => ∃ A n c, e = .returned (.tuple #[.slice A n c, .int .i64 0]) ∧ w'.ownsRow w.heap.size 53 3 (.slice A n c) n (spV l) ∧ n ≤ c ∧ Below w.heap.size w w'
  | none => e = .returned (.tuple #[.slice none 0 0, .int .i64 2]) ∧ Below w.heap.size w w'
theorem SetAns.no {w w' : World} {o : Option (List Sp)} (ho : o = none) (b : Below w.heap.size w w') : SetAns w o (.returned (.tuple #[.slice none 0 0, .int .i64 2])) w' := by rw [ho]; exact ⟨rfl, b⟩
theorem SetAns.yes {w w' : World} {o : Option (List Sp)} {l : List Sp} {A : Option Addr} {n c : Nat} (ho : o = some l) (h : w'.ownsRow w.heap.size 53 3 (.slice A n c) n (spV l)) (hc : n ≤ c) (b : Below w.heap.size w w') : SetAns w o (.returned (.tuple #[.slice A n c, .int .i64 0])) w' := by rw [ho]; exact ⟨A, n, c, rfl, h, hc, b⟩
theorem setR_no1 {ok : Nat → Nat → Bool} {L : List UInt8} (h : pTake (gSpan ok) L 0 = none) : setR ok L = none := by unfold setR; rw [h]
theorem setR_no2 {ok : Nat → Nat → Bool} {L : List UInt8} {l : List Sp} {a : Nat} (h : pTake (gSpan ok) L 0 = some (l, a)) (hn : ¬ (a = L.length ∧ rightS l = true)) : setR ok L = none := by unfold setR; rw [h]; exact if_neg hn
theorem setR_yes {ok : Nat → Nat → Bool} {L : List UInt8} {l : List Sp} {a : Nat} (h : pTake (gSpan ok) L 0 = some (l, a)) (hn : a = L.length ∧ rightS l = true) : setR ok L = some l := by unfold setR; rw [h]; exact if_pos hn
theorem pTake_leS {L : List UInt8} {l : List Sp} {a : Nat} (h : pTake (gSpan okP) L 0 = some (l, a)) : l.length ≤ L.length := by
  obtain ⟨n, a1, h1, h2, h3, h4⟩ := pTake_some h
  omega
/-- The three blocks that whole lays. -/
def w3S (w : World) (A : Option Addr) (n c : Nat) : World := ((w.alloc (.cells #[.slice none 0 0] 40)).alloc (.cells #[.int .i64 0] 95)).alloc (.cells #[.slice A n c, .int .i64 0] 126)
theorem w3S_facts (w : World) (A : Option Addr) (n c : Nat) (L : List UInt8) (hs : SlB w A n L) (hc : n ≤ c) (h9 : n ≤ 4000000000000) :
    (w3S w A n c).heap[w.heap.size]? = some (.cells #[.slice none 0 0] 40 (0, 0)) ∧ (w3S w A n c).heap[w.heap.size + 1]? = some (.cells #[.int .i64 0] 95 (0, 0)) ∧ RSt (w3S w A n c) (w.heap.size + 1 + 1) A n c L 0 ∧ Below w.heap.size w (w3S w A n c) ∧ (w3S w A n c).heap.size = w.heap.size + 3 := by
  have b1 : Below w.heap.size w (w.alloc (.cells #[.slice none 0 0] 40)) := (Below.refl _ _).alloc (Nat.le_refl _) _
  have b2 := b1.alloc b1.size (.cells #[.int .i64 0] 95)
  have b3 := b2.alloc b2.size (.cells #[.slice A n c, .int .i64 0] 126)
  have e1 := heap_alloc_new (w.alloc (.cells #[.slice none 0 0] 40)) (.cells #[.int .i64 0] 95)
  have e2 := heap_alloc_new ((w.alloc (.cells #[.slice none 0 0] 40)).alloc (.cells #[.int .i64 0] 95)) (.cells #[.slice A n c, .int .i64 0] 126)
  rw [show (w.alloc (.cells #[.slice none 0 0] 40)).heap.size = w.heap.size + 1 by simp] at e1
  rw [show ((w.alloc (.cells #[.slice none 0 0] 40)).alloc (.cells #[.int .i64 0] 95)).heap.size = w.heap.size + 1 + 1 by simp] at e2
  refine ⟨?_, ?_, ⟨e2, Sl.below hs b3, fun b off s hn e => ?_, Nat.zero_le _, hc, by omega⟩, b3, by simp [w3S]⟩
  · exact (Below.heap_alloc _ _ _ (by simp; omega)).trans ((Below.heap_alloc _ _ _ (by simp)).trans (heap_alloc_new w _))
  · exact (Below.heap_alloc _ _ _ (by simp)).trans e1
  · have := Sl.blk_lt hs (b := b) (off := off) (s := s) (by omega) e
    omega
end Go.Proofs.Ytilagblpamhmkaa
