/-
  One set of spans within another one, and how many dots there are, in plain Lean.
-/
import Derived.Test.YtlcfknpmnoghbaaSpanRight
namespace Go.Proofs.Ytlcfknpmnoghbaa
set_option linter.unusedVariables false

/-- y holds all of x. -/
def covS (y x : Sp) : Prop := x.1 = y.1 ∧ y.2.1 ≤ x.2.1 ∧ x.2.2 ≤ y.2.2
instance (y x : Sp) : Decidable (covS y x) := by unfold covS; infer_instance
theorem norm_two {l : List Sp} (h : Norm l) {y z : Sp} (hy : y ∈ l) (hz : z ∈ l) : y = z ∨ gap y z ∨ gap z y := by
  induction l with
  | nil => cases hy
  | cons u l ih =>
    rcases List.mem_cons.1 hy with rfl | hy'
    · rcases List.mem_cons.1 hz with rfl | hz'
      · exact .inl rfl
      · exact .inr (.inl (h.gaps z hz'))
    · rcases List.mem_cons.1 hz with rfl | hz'
      · exact .inr (.inr (h.gaps y hy'))
      · exact ih h.tail hy' hz'
/-- Dots without a gap lie in one span. -/
theorem cov_of_dots {l : List Sp} (h : Norm l) {x : Sp} (hx : okSp x) (hd : ∀ n, x.2.1 ≤ n → n ≤ x.2.2 → has l x.1 n) : ∃ y ∈ l, covS y x := by
  obtain ⟨y, hy, hi⟩ := hd x.2.1 (Int.le_refl _) hx.2.2.2.1
  refine ⟨y, hy, ?_⟩
  rcases Int.lt_or_le y.2.2 x.2.2 with hlt | hle
  · exfalso
    obtain ⟨z, hz, hj⟩ := hd (y.2.2 + 1) (by unfold inSp at hi; omega) (by omega)
    have oy := h.1 y hy
    have oz := h.1 z hz
    rcases norm_two h hy hz with rfl | g | g
    · unfold inSp at hj; omega
    · unfold gap inSp okSp at *; omega
    · unfold gap inSp okSp at *; omega
  · unfold covS inSp at *; omega
/-- Every dot of a is in b. -/
def subS (a b : List Sp) : Prop := ∀ s n, has a s n → has b s n
theorem sub_iff {a b : List Sp} (ha : ∀ x ∈ a, okSp x) (hb : Norm b) : subS a b ↔ ∀ x ∈ a, ∃ y ∈ b, covS y x := by
  constructor
  · intro h x hx
    exact cov_of_dots hb (ha x hx) fun n h1 h2 => h _ _ ⟨x, hx, rfl, h1, h2⟩
  · rintro h s n ⟨x, hx, hi⟩
    obtain ⟨y, hy, hc⟩ := h x hx
    exact ⟨y, hy, by unfold covS inSp at *; omega⟩
theorem put_same {b : List Sp} {x : Sp} (hb : Norm b) (hx : okSp x) : putS b x = b ↔ ∃ y ∈ b, covS y x := by
  obtain ⟨p1, p2⟩ := putS_norm b x hb hx
  constructor
  · intro h
    rw [h] at p2
    exact cov_of_dots hb hx fun n h1 h2 => (p2 _ _).2 (.inr ⟨rfl, h1, h2⟩)
  · rintro ⟨y, hy, hc⟩
    refine norm_ext p1 hb fun s n => ?_
    rw [p2]
    refine ⟨fun h => h.elim id fun h => ⟨y, hy, by unfold covS inSp at *; omega⟩, .inl⟩

/-- One set is within another one: both right, and every dot of the one in the other. -/
noncomputable def withinS (a b : List Sp) : Bool := rightS a && rightS b && @decide (subS a b) (Classical.propDecidable _)
theorem withinS_left {a b : List Sp} (h : rightS a = false) : withinS a b = false := by unfold withinS; rw [h]; rfl
theorem withinS_right {a b : List Sp} (h : rightS b = false) : withinS a b = false := by unfold withinS; rw [h, Bool.and_false]; rfl
theorem withinS_true {a b : List Sp} : withinS a b = true ↔ rightS a = true ∧ rightS b = true ∧ subS a b := by
  unfold withinS
  rw [Bool.and_eq_true, Bool.and_eq_true, @decide_eq_true_iff _ (Classical.propDecidable _), and_assoc]
theorem withinS_eq {a b : List Sp} (ha : rightS a = true) (hb : rightS b = true) : withinS a b = @decide (subS a b) (Classical.propDecidable _) := by unfold withinS; rw [ha, hb]; rfl
theorem withinS_no {a b : List Sp} (hb : rightS b = true) {x : Sp} (hx : x ∈ a) (hn : ∀ y ∈ b, ¬ covS y x) : withinS a b = false := by
  cases h : withinS a b
  · rfl
  · obtain ⟨h1, h2, h3⟩ := withinS_true.1 h
    obtain ⟨y, hy, hc⟩ := (sub_iff (rightS_true.1 h1).1.1 (rightS_true.1 hb).1).1 h3 x hx
    exact absurd hc (hn y hy)

/-- The first k spans of a are within b. -/
def WTo (a b : List Sp) (k : Nat) : Prop := ∀ x ∈ a.take k, ∃ y ∈ b, covS y x
theorem WTo.start (a b : List Sp) : WTo a b 0 := by intro x hx; simp at hx
theorem WTo.step {a b : List Sp} {k : Nat} {x : Sp} (h : WTo a b k) (hx : a[k]? = some x) (hc : ∃ y ∈ b, covS y x) : WTo a b (k + 1) := by
  intro z hz
  rw [List.take_add_one, hx, List.mem_append] at hz
  rcases hz with hz | hz
  · exact h z hz
  · simp at hz; subst hz; exact hc
theorem WTo.all {a b : List Sp} {n : Nat} (h : WTo a b n) (hn : a.length = n) (ha : rightS a = true) (hb : rightS b = true) : withinS a b = true := by
  unfold WTo at h
  rw [List.take_of_length_le (by omega)] at h
  exact withinS_true.2 ⟨ha, hb, (sub_iff (rightS_true.1 ha).1.1 (rightS_true.1 hb).1).2 h⟩
/-- Whether one of the first k spans of b holds x. -/
def foundTo (b : List Sp) (x : Sp) (k : Nat) : Bool := (b.take k).any fun y => decide (covS y x)
theorem foundTo_zero (b : List Sp) (x : Sp) : foundTo b x 0 = false := rfl
theorem foundTo_step {b : List Sp} {x y : Sp} {k : Nat} (hy : b[k]? = some y) : foundTo b x (k + 1) = (foundTo b x k || decide (covS y x)) := by
  unfold foundTo
  rw [List.take_add_one, hy, List.any_append]
  simp
theorem foundTo_yes {b : List Sp} {x : Sp} {k : Nat} (h : foundTo b x k = true) : ∃ y ∈ b, covS y x := by
  unfold foundTo at h
  rw [List.any_eq_true] at h
  obtain ⟨y, hy, hc⟩ := h
  exact ⟨y, List.mem_of_mem_take hy, by simpa using hc⟩
theorem foundTo_no {b : List Sp} {x : Sp} {n : Nat} (hn : b.length = n) (h : foundTo b x n = false) : ∀ y ∈ b, ¬ covS y x := by
  unfold foundTo at h
  rw [List.take_of_length_le (by omega), List.any_eq_false] at h
  intro y hy hc
  exact h y hy (by simpa using hc)

/-! ### How many dots -/
def sizeTo (l : List Sp) : Nat → Int
  | 0 => 0
  | k + 1 => min (sizeTo l k + ((l.getD k (0, 0, 0)).2.2 - (l.getD k (0, 0, 0)).2.1 + 1)) 4611686018427387904
noncomputable def sizeS (l : List Sp) : Int := if rightS l = true then sizeTo l l.length else 0
theorem sizeTo_step {l : List Sp} {k : Nat} {x y z : Int} (hx : l[k]? = some (x, y, z)) : sizeTo l (k + 1) = min (sizeTo l k + (z - y + 1)) 4611686018427387904 := by
  have e : l.getD k (0, 0, 0) = (x, y, z) := by rw [List.getD_eq_getElem?_getD, hx]; rfl
  rw [sizeTo, e]
theorem getD_ok {l : List Sp} {k : Nat} (h : ∀ x ∈ l, okSp x) (hk : k < l.length) : okSp (l.getD k (0, 0, 0)) := by
  rw [List.getD_eq_getElem?_getD, List.getElem?_eq_getElem hk]
  exact h _ (List.getElem_mem hk)
theorem sizeTo_bd {l : List Sp} (h : ∀ x ∈ l, okSp x) : ∀ {k : Nat}, k ≤ l.length → 0 ≤ sizeTo l k ∧ sizeTo l k ≤ 4611686018427387904
  | 0, _ => by simp [sizeTo]
  | k + 1, hk => by
    have h1 := sizeTo_bd h (k := k) (by omega)
    have h2 := getD_ok h (k := k) (by omega)
    rw [sizeTo]
    unfold okSp at h2
    omega
theorem sizeTo_full {l : List Sp} (h : ∀ x ∈ l, okSp x) {k : Nat} (hk : sizeTo l k = 4611686018427387904) : ∀ {j : Nat}, k ≤ j → j ≤ l.length → sizeTo l j = 4611686018427387904
  | 0, h1, _ => by have : k = 0 := by omega
                   subst this; exact hk
  | j + 1, h1, h2 => by
    rcases Nat.lt_or_ge j k with h3 | h3
    · have : k = j + 1 := by omega
      subst this; exact hk
    · have h4 := sizeTo_full h hk h3 (by omega)
      have h5 := getD_ok h (k := j) (by omega)
      rw [sizeTo, h4]
      unfold okSp at h5
      omega
theorem sizeS_full {l : List Sp} {k : Nat} {x y z : Int} (hr : rightS l = true) (hx : l[k]? = some (x, y, z)) (h : 4611686018427387904 - sizeTo l k ≤ z - y) : sizeS l = 4611686018427387904 := by
  have hl := (List.getElem?_eq_some_iff.1 hx).1
  have ho := (rightS_true.1 hr).1.1
  unfold sizeS
  rw [if_pos hr]
  exact sizeTo_full ho (k := k + 1) (by rw [sizeTo_step hx]; omega) (by omega) (Nat.le_refl _)
theorem sizeS_wrong {l : List Sp} (h : rightS l = false) : sizeS l = 0 := by unfold sizeS; rw [h]; rfl
theorem sizeS_right {l : List Sp} (h : rightS l = true) : sizeS l = sizeTo l l.length := by unfold sizeS; rw [if_pos h]
end Go.Proofs.Ytlcfknpmnoghbaa
