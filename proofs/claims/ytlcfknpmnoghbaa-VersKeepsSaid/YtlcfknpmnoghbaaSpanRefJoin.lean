/-
  firthref03.Join, Add and Within.
-/
import Derived.Test.YtlcfknpmnoghbaaSpanPut
import Derived.Test.YtlcfknpmnoghbaaSpanWithinPlain
namespace Go.Proofs.Ytlcfknpmnoghbaa
open Go.RowKit
set_option linter.unusedVariables false

/-- What comes of two sets put together: the list and the error's number. -/
noncomputable def joinSL (a b : List Sp) : List Sp := if rightS a = true ∧ rightS b = true ∧ (mergeL a b).length ≤ 1024 then mergeL a b else []
noncomputable def joinSE (a b : List Sp) : Int := if rightS a = true ∧ rightS b = true then (if (mergeL a b).length ≤ 1024 then 0 else 30) else 1
theorem joinS_wrong {a b : List Sp} (h : ¬ (rightS a = true ∧ rightS b = true)) : joinSL a b = [] ∧ joinSE a b = 1 := by
  unfold joinSL joinSE
  rw [if_neg (fun h' => h ⟨h'.1, h'.2.1⟩), if_neg h]; exact ⟨rfl, rfl⟩
theorem joinS_full {a b : List Sp} (ha : rightS a = true) (hb : rightS b = true) (h : 1024 < (mergeL a b).length) : joinSL a b = [] ∧ joinSE a b = 30 := by
  unfold joinSL joinSE
  rw [if_neg (fun h' => absurd h'.2.2 (by omega)), if_pos ⟨ha, hb⟩, if_neg (by omega)]; exact ⟨rfl, rfl⟩
theorem joinS_yes {a b : List Sp} (ha : rightS a = true) (hb : rightS b = true) (h : (mergeL a b).length ≤ 1024) : joinSL a b = mergeL a b ∧ joinSE a b = 0 := by
  unfold joinSL joinSE
  rw [if_pos ⟨ha, hb, h⟩, if_pos ⟨ha, hb⟩, if_pos h]; exact ⟨rfl, rfl⟩

/-- What a call leaves that answers new spans and an error's number. -/
def NewSpansE (w : World) (l : List Sp) (x : Int) (e : Ending) (w' : World) : Prop :=
  ∃ A n c, e = .returned (.tuple #[.slice A n c, .int .i64 x]) ∧ SlS w' A n l ∧ n ≤ c ∧ w'.ownsRow w.heap.size 42 3 (.slice A n c) n (spV l) ∧ Below w.heap.size w w'
theorem NewSpansE.nil {w w' : World} {x : Int} (b : Below w.heap.size w w') : NewSpansE w [] x (.returned (.tuple #[.slice none 0 0, .int .i64 x])) w' :=
  ⟨none, 0, 0, rfl, Sl.nil _ _ _, Nat.le_refl _, World.ownsRow_nil _ _ _ _, b⟩

/-- The first k spans of b are laid into a. -/
def FoldTo (a b : List Sp) (k : Nat) (cur : List Sp) : Prop := cur = (b.take k).foldl putS a ∧ Norm cur ∧ cur.length ≤ a.length + k
theorem putS_len : ∀ (l : List Sp) (x : Sp), (putS l x).length ≤ l.length + 1
  | [], x => by simp [putS]
  | y :: l, x => by
    rw [putS]
    split
    · have := putS_len l (growS y x); simp; omega
    · split
      · simp
      · have := putS_len l x; simp; omega
theorem FoldTo.start {a : List Sp} (b : List Sp) (ha : Norm a) : FoldTo a b 0 a := ⟨by simp, ha, by omega⟩
theorem FoldTo.step {a b cur : List Sp} {k : Nat} {x : Sp} (h : FoldTo a b k cur) (hx : b[k]? = some x) (ho : okSp x) : FoldTo a b (k + 1) (putS cur x) := by
  obtain ⟨h1, h2, h3⟩ := h
  refine ⟨?_, (putS_norm cur x h2 ho).1, by have := putS_len cur x; omega⟩
  rw [List.take_add_one, hx, List.foldl_append, ← h1]; rfl
theorem FoldTo.all {a b cur : List Sp} {n : Nat} (h : FoldTo a b n cur) (hn : b.length = n) (ha : Norm a) (hb : Norm b) : cur = mergeL a b := by
  rw [merge_eq ha hb, h.1, List.take_of_length_le (by omega)]

end Go.Proofs.Ytlcfknpmnoghbaa
