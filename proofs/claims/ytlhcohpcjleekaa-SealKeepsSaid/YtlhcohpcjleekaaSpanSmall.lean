/-
  span: which of two spans comes first, whether a dot is right, whether a set has a dot, a site's greatest count; firthref03: the same.
-/
import Derived.Test.YtlhcohpcjleekaaSpanRight
namespace Go.Proofs.Ytlhcohpcjleekaa
open Go.RowKit
set_option linter.unusedVariables false

/-- A dot is right. -/
def dotB (s n : Int) : Bool := decide (1 ≤ s ∧ s ≤ 16 ∧ 1 ≤ n ∧ n ≤ 4611686018427387904)
theorem dotB_true {s n : Int} : dotB s n = true ↔ 1 ≤ s ∧ s ≤ 16 ∧ 1 ≤ n ∧ n ≤ 4611686018427387904 := by unfold dotB; rw [decide_eq_true_iff]
theorem dotB_false {s n : Int} (h : ¬ (1 ≤ s ∧ s ≤ 16 ∧ 1 ≤ n ∧ n ≤ 4611686018427387904)) : dotB s n = false := by unfold dotB; exact decide_eq_false h
theorem beforeB_false {x y : Sp} (h : ¬ (x.1 < y.1 ∨ (x.1 = y.1 ∧ x.2.1 < y.2.1))) : beforeB x y = false := by
  cases hb : beforeB x y
  · rfl
  · exact absurd (beforeB_true.1 hb) h

/-- A set has a dot. -/
noncomputable def hasB (l : List Sp) (s n : Int) : Bool := @decide (has l s n) (Classical.propDecidable _)
theorem hasB_true {l : List Sp} {s n : Int} : hasB l s n = true ↔ has l s n := by unfold hasB; exact @decide_eq_true_iff _ (Classical.propDecidable _)
theorem hasB_false {l : List Sp} {s n : Int} (h : ¬ has l s n) : hasB l s n = false := by
  cases hr : hasB l s n
  · rfl
  · exact absurd (hasB_true.1 hr) h
def NoneTo (l : List Sp) (s n : Int) (k : Nat) : Prop := ¬ has (l.take k) s n
theorem NoneTo.start (l : List Sp) (s n : Int) : NoneTo l s n 0 := has_nil s n
theorem NoneTo.step {l : List Sp} {s n : Int} {k : Nat} {x : Sp} (h : NoneTo l s n k) (hx : l[k]? = some x) (hn : ¬ inSp x s n) : NoneTo l s n (k + 1) := by
  unfold NoneTo at *
  rw [List.take_add_one, hx, has_append]
  rintro (h1 | ⟨y, hy, h1⟩)
  · exact h h1
  · simp at hy; subst hy; exact hn h1
theorem NoneTo.hit {l : List Sp} {s n : Int} {k : Nat} {x : Sp} (hx : l[k]? = some x) (hn : inSp x s n) : hasB l s n = true :=
  hasB_true.2 ⟨x, List.mem_of_getElem? hx, hn⟩
theorem NoneTo.all {l : List Sp} {s n : Int} {k : Nat} (h : NoneTo l s n k) (hk : l.length = k) : hasB l s n = false := by
  unfold NoneTo at h
  rw [List.take_of_length_le (by omega)] at h
  exact hasB_false h

/-- The greatest count of a site in the first k spans. -/
def topTo (l : List Sp) (s : Int) : Nat → Int
  | 0 => 0
  | k + 1 => if (l.getD k (0, 0, 0)).1 = s ∧ topTo l s k < (l.getD k (0, 0, 0)).2.2 then (l.getD k (0, 0, 0)).2.2 else topTo l s k
def topS (l : List Sp) (s : Int) : Int := topTo l s l.length
theorem topTo_yes {l : List Sp} {s : Int} {k : Nat} {x : Sp} (hx : l[k]? = some x) (h1 : x.1 = s) (h2 : topTo l s k < x.2.2) : topTo l s (k + 1) = x.2.2 := by
  have e : l.getD k (0, 0, 0) = x := by rw [List.getD_eq_getElem?_getD, hx]; rfl
  rw [topTo, e, if_pos ⟨h1, h2⟩]
theorem topTo_no {l : List Sp} {s : Int} {k : Nat} {x : Sp} (hx : l[k]? = some x) (h : ¬ (x.1 = s ∧ topTo l s k < x.2.2)) : topTo l s (k + 1) = topTo l s k := by
  have e : l.getD k (0, 0, 0) = x := by rw [List.getD_eq_getElem?_getD, hx]; rfl
  rw [topTo, e, if_neg h]

/-- A dot in a block of the call's own. -/
def Box2 (w : World) (g : Nat) (t : TypeId) (x y : Int) : Prop := w.heap[g]? = some (.cells #[.int .i64 x, .int .i64 y] t (0, 0))
section
variable {w w' : World} {g : Nat} {t : TypeId} {x y : Int}
theorem Box2.new (w : World) (t : TypeId) (x y : Int) : Box2 (w.alloc (.cells #[.int .i64 x, .int .i64 y] t)) w.heap.size t x y := heap_alloc_new w _
theorem Box2.lt (h : Box2 w g t x y) : g < w.heap.size := (Array.getElem?_eq_some_iff.1 h).1
theorem Box2.alloc (h : Box2 w g t x y) (o : Obj) : Box2 (w.alloc o) g t x y := (Below.heap_alloc w o g h.lt).trans h
theorem Box2.c0 (h : Box2 w g t x y) : w.cell? ⟨g, 0, none⟩ = some (.int .i64 x) := by rw [cell_of_row w g 0 _ t (0, 0) h]; rfl
theorem Box2.c1 (h : Box2 w g t x y) : w.cell? ⟨g, 1, none⟩ = some (.int .i64 y) := by rw [cell_of_row w g 1 _ t (0, 0) h]; rfl
end

set_option maxHeartbeats 1000000 in
set_option maxRecDepth 100000 in
theorem refDot_any (s n : Int) (w : World) :
    Calls Try.prog 35 #[.agg #[.int .i64 s, .int .i64 n]] w fun e w' => e = .returned (.bool (dotB s n)) ∧ Below w.heap.size w w' := by
  have HA : Below w.heap.size w (w.alloc (.cells #[.int .i64 s, .int .i64 n] 70)) := (Below.refl _ _).alloc (Nat.le_refl _) _
  have h := Lib.hid HA
  clear HA
  by_cases h1 : 1 ≤ s
  · by_cases h2 : s ≤ 16
    · by_cases h3 : 1 ≤ n
      · by_cases h4 : n ≤ 4611686018427387904
        · go_enter Try.func35, Try.ntmps35
          go_wp2
          go_ret
          exact ⟨retb (by rw [dotB_true.2 ⟨h1, h2, h3, h4⟩]), h.out⟩
        · go_enter Try.func35, Try.ntmps35
          go_wp2
          go_ret
          exact ⟨retb (by rw [dotB_false (by omega)]), h.out⟩
      · go_enter Try.func35, Try.ntmps35
        go_wp2
        go_ret
        exact ⟨retb (by rw [dotB_false (by omega)]), h.out⟩
    · go_enter Try.func35, Try.ntmps35
      go_wp2
      go_ret
      exact ⟨retb (by rw [dotB_false (by omega)]), h.out⟩
  · go_enter Try.func35, Try.ntmps35
    go_wp2
    go_ret
    exact ⟨retb (by rw [dotB_false (by omega)]), h.out⟩

/-- The memory that span.before leaves. -/
def beforeW (w : World) (x y : Sp) : World := (w.alloc (.cells #[.int .i64 x.1, .int .i64 x.2.1, .int .i64 x.2.2] 45)).alloc (.cells #[.int .i64 y.1, .int .i64 y.2.1, .int .i64 y.2.2] 45)
theorem beforeW_below (w : World) (x y : Sp) : Below w.heap.size w (beforeW w x y) :=
  have h := (Below.refl w.heap.size w).alloc (Nat.le_refl _) (.cells #[.int .i64 x.1, .int .i64 x.2.1, .int .i64 x.2.2] 45)
  h.alloc h.size _

end Go.Proofs.Ytlhcohpcjleekaa
