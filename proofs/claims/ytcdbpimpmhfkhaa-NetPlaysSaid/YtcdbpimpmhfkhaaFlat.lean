/-
  Rows of structs by value: k cells an element. No program is looked at here.
-/
import Derived.Test.YtcdbpimpmhfkhaaBase
namespace Go.Proofs.Ytcdbpimpmhfkhaa
set_option linter.unusedVariables false
section
variable {α : Type} {f : α → List Value} {sz : Nat}
theorem flat_len (hf : ∀ x, (f x).length = sz) : ∀ l : List α, (l.flatMap f).length = l.length * sz
  | [] => by simp
  | x :: l => by rw [List.flatMap_cons, List.length_append, hf, flat_len hf l, List.length_cons, Nat.add_mul]; omega
theorem flat_at (hf : ∀ x, (f x).length = sz) : ∀ (l : List α) (i r : Nat) (x : α), l[i]? = some x → r < sz → (l.flatMap f)[i * sz + r]? = (f x)[r]?
  | [], _, _, _, h, _ => by simp at h
  | y :: l, 0, r, x, h, hr => by
    simp only [List.getElem?_cons_zero, Option.some.injEq] at h
    subst h
    rw [List.flatMap_cons, Nat.zero_mul, Nat.zero_add, List.getElem?_append_left (by rw [hf]; exact hr)]
  | y :: l, i + 1, r, x, h, hr => by
    simp only [List.getElem?_cons_succ] at h
    rw [List.flatMap_cons, List.getElem?_append_right (by rw [hf, Nat.add_mul]; omega), hf, show (i + 1) * sz + r - sz = i * sz + r by rw [Nat.add_mul]; omega]
    exact flat_at hf l i r x h hr
theorem flat_set (hf : ∀ x, (f x).length = sz) : ∀ (l : List α) (i r : Nat) (x y : α) (u : Value), l[i]? = some x → r < sz → (f x).set r u = f y → (l.flatMap f).set (i * sz + r) u = (l.set i y).flatMap f
  | [], _, _, _, _, _, h, _, _ => by simp at h
  | z :: l, 0, r, x, y, u, h, hr, he => by
    simp only [List.getElem?_cons_zero, Option.some.injEq] at h
    subst h
    rw [List.flatMap_cons, Nat.zero_mul, Nat.zero_add, List.set_append_left _ _ (by rw [hf]; exact hr), he]; rfl
  | z :: l, i + 1, r, x, y, u, h, hr, he => by
    simp only [List.getElem?_cons_succ] at h
    rw [List.flatMap_cons, List.set_append_right _ _ (by rw [hf, Nat.add_mul]; omega), hf, show (i + 1) * sz + r - sz = i * sz + r by rw [Nat.add_mul]; omega, flat_set hf l i r x y u h hr he]
    rfl
end
end Go.Proofs.Ytcdbpimpmhfkhaa
