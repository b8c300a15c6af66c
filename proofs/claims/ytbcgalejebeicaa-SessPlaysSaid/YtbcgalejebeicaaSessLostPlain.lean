/-
  Layer 21 in plain Lean: Lost. No program is looked at here.
-/
import Derived.Test.YtbcgalejebeicaaSessPlain
namespace Go.Proofs.Ytbcgalejebeicaa
set_option linter.unusedVariables false

def lostF (s : Int) (x : Ses) : Ses := if x.site = s then { x with op := 0 } else x
def lostL (l : List Ses) (s : Int) : List Ses := l.map (lostF s)
def lostA (l : List Ses) (s : Int) : List Int := (l.filter (fun x => decide (x.site = s) && decide (x.op ≠ 0))).map (·.op)
def lostUp (l : List Ses) (s : Int) (k : Nat) : List Ses := (l.take k).map (lostF s) ++ l.drop k
section
variable {l : List Ses} {s : Int} {k : Nat} {x : Ses}
theorem lostUp_zero : lostUp l s 0 = l := by simp [lostUp]
theorem lostUp_all : lostUp l s l.length = lostL l s := by simp [lostUp, lostL]
theorem lostUp_len (l : List Ses) (s : Int) (k : Nat) : (lostUp l s k).length = l.length := by
  simp [lostUp]; omega
theorem lostUp_get (hx : l[k]? = some x) : (lostUp l s k)[k]? = some x := by
  have hk := (List.getElem?_eq_some_iff.1 hx).1
  unfold lostUp
  rw [List.getElem?_append_right (by simp; omega), List.getElem?_drop]
  have : k + (k - (List.map (lostF s) (List.take k l)).length) = k := by simp; omega
  rw [this, hx]
theorem lostUp_succ (hx : l[k]? = some x) : lostUp l s (k + 1) = (lostUp l s k).set k (lostF s x) := by
  have hk := (List.getElem?_eq_some_iff.1 hx).1
  have e1 : l.take (k + 1) = l.take k ++ [x] := by rw [List.take_add_one, hx]; rfl
  have e2 : l.drop k = x :: l.drop (k + 1) := by rw [← (List.getElem?_eq_some_iff.1 hx).2]; exact List.drop_eq_getElem_cons hk
  unfold lostUp
  rw [e1, e2, List.map_append, List.append_assoc, List.set_append_right _ _ (by simp; omega)]
  have : k - (List.map (lostF s) (List.take k l)).length = 0 := by simp; omega
  rw [this]
  rfl
theorem set_same {α : Type} : ∀ {l : List α} {k : Nat} {x : α}, l[k]? = some x → l.set k x = l
  | [], _, _, h => by simp at h
  | y :: l, 0, x, h => by simp at h; subst h; rfl
  | y :: l, k + 1, x, h => by rw [List.set_cons_succ, set_same (l := l) (k := k) (by simpa using h)]
theorem lostUp_same (hx : l[k]? = some x) (he : lostF s x = x) : lostUp l s (k + 1) = lostUp l s k := by
  rw [lostUp_succ hx, he, set_same (lostUp_get hx)]
theorem lostF_no (h : ¬ (x.site = s ∧ x.op ≠ 0)) : lostF s x = x := by
  unfold lostF
  split
  · rename_i e
    have : x.op = 0 := Decidable.byContradiction fun h' => h ⟨e, h'⟩
    cases x
    simp at this ⊢
    exact this.symm
  · rfl
theorem lostF_yes (h : x.site = s) : lostF s x = { x with op := 0 } := by unfold lostF; rw [if_pos h]
theorem lostA_yes (hx : l[k]? = some x) (h1 : x.site = s) (h2 : x.op ≠ 0) : lostA (l.take (k + 1)) s = lostA (l.take k) s ++ [x.op] := by
  have e1 : l.take (k + 1) = l.take k ++ [x] := by rw [List.take_add_one, hx]; rfl
  unfold lostA
  rw [e1, List.filter_append, List.map_append]
  congr 1
  simp [List.filter_cons, h1, h2]
theorem lostA_no (hx : l[k]? = some x) (h : ¬ (x.site = s ∧ x.op ≠ 0)) : lostA (l.take (k + 1)) s = lostA (l.take k) s := by
  have e1 : l.take (k + 1) = l.take k ++ [x] := by rw [List.take_add_one, hx]; rfl
  unfold lostA
  rw [e1, List.filter_append, List.map_append]
  have : List.filter (fun x => decide (x.site = s) && decide (x.op ≠ 0)) [x] = [] := by
    rw [List.filter_cons]
    split
    · rename_i h'
      simp only [Bool.and_eq_true, decide_eq_true_eq] at h'
      exact absurd h' h
    · rfl
  rw [this]
  simp
theorem lostA_len (l : List Ses) (s : Int) (k : Nat) : (lostA (l.take k) s).length ≤ k := by
  unfold lostA
  rw [List.length_map]
  exact Nat.le_trans (List.length_filter_le _ _) (by rw [List.length_take]; omega)
theorem lostA_all : lostA (l.take l.length) s = lostA l s := by rw [List.take_length]
/-- The ask's session, behind k of them. -/
theorem lost_find (ha : Asks (lostUp l s k)) (hx : l[k]? = some x) (h2 : x.op ≠ 0) : findS (lostUp l s k) x.op = k + 1 :=
  findS_eq ha (lostUp_get hx) rfl (by have := ha.1 x (List.mem_of_getElem? (lostUp_get hx)); omega)
theorem lost_end (ha : Asks (lostUp l s k)) (hx : l[k]? = some x) (h1 : x.site = s) (h2 : x.op ≠ 0) : endL (lostUp l s k) x.op [] = lostUp l s (k + 1) := by
  unfold endL
  rw [lost_find ha hx h2]
  simp only []
  rw [lostUp_get hx]
  simp only []
  rw [lostUp_succ hx, lostF_yes h1]
  rfl
end
end Go.Proofs.Ytbcgalejebeicaa
