/-
  firthref03.put lays a span into a right list.
-/
import Derived.Test.YtjjemoiblbehoaaSpanRefRight
import Derived.Test.YtjjemoiblbehoaaSpanSame
namespace Go.Proofs.Ytjjemoiblbehoaa
open Go.RowKit
set_option linter.unusedVariables false

theorem Box3.grown {w w' : World} {g : Nat} {t : TypeId} {x y z : Int} {row : Option Nat} (h : Box3 w g t x y z) (hg : w.grownBy w' row) (hr : some g ≠ row) : Box3 w' g t x y z := (hg.block g h.lt hr).trans h
theorem row_ne {w : World} {base : Nat} {e : TypeId} {size : Nat} {v : Value} {n : Nat} {xs : List Value} (h : w.ownsRow base e size v n xs) {g : Nat} (hg : g < base ∨ w.heap.size ≤ g) : some g ≠ v.ownBlock := by
  intro he
  have := h.lt g he.symm
  omega

theorem Box3.put1 {w : World} {g : Nat} {t : TypeId} {x y z : Int} (h : Box3 w g t x y z) (b : Int) : Box3 (w.setCell ⟨g, 1, none⟩ (.int .i64 b)) g t x b z := by
  have h2 := heap_setCell_same w g 1 _ t (.int .i64 b) h
  unfold Box3
  rw [h2]; rfl
theorem Box3.put2 {w : World} {g : Nat} {t : TypeId} {x y z : Int} (h : Box3 w g t x y z) (c : Int) : Box3 (w.setCell ⟨g, 2, none⟩ (.int .i64 c)) g t x y c := by
  have h2 := heap_setCell_same w g 2 _ t (.int .i64 c) h
  unfold Box3
  rw [h2]; rfl
theorem grown_set (w : World) (p : Addr) (u : Value) : w.grownBy (w.setCell p u) (some p.block) :=
  ⟨rfl, rfl, rfl, by simp, fun k hk hne => Below.heap_setCell w p u k (fun e => hne (by rw [e]))⟩
theorem own_set {w : World} {base : Nat} {e : TypeId} {size : Nat} {v : Value} {n : Nat} {xs : List Value} (h : w.ownsRow base e size v n xs) {g j : Nat} (hg : g < base ∨ w.heap.size ≤ g) (u : Value) : (w.setCell ⟨g, j, none⟩ u).ownsRow base e size v n xs :=
  h.kept (grown_set w ⟨g, j, none⟩ u) (.inr (fun he => row_ne h hg he.symm))

/-- Where put's loop stands: out is laid, what is to come stands behind the first k. -/
def PutAt (l : List Sp) (x0 : Sp) (k : Nat) (laid : Bool) (x : Sp) (out : List Sp) : Prop :=
  out ++ putG laid x (l.drop k) = putG false x0 l ∧ okSp x ∧ out.length ≤ k + 1 ∧ (laid = false → out.length ≤ k)
theorem PutAt.start (l : List Sp) {x : Sp} (hx : okSp x) : PutAt l x 0 false x [] := ⟨by rw [List.drop_zero, List.nil_append], hx, by simp, by simp⟩
theorem drop_cons {l : List Sp} {k : Nat} {y : Sp} (hy : l[k]? = some y) : l.drop k = y :: l.drop (k + 1) := by
  obtain ⟨h, e⟩ := List.getElem?_eq_some_iff.1 hy
  rw [List.drop_eq_getElem_cons h, e]
theorem PutAt.tch {l : List Sp} {x0 x y : Sp} {k : Nat} {laid : Bool} {out : List Sp} (h : PutAt l x0 k laid x out) (hy : l[k]? = some y) (hoy : okSp y) (ht : touch y x) : PutAt l x0 (k + 1) laid (growS y x) out := by
  obtain ⟨h1, h2, h3, h4⟩ := h
  refine ⟨?_, grow_ok h2 hoy ht, by omega, fun h => by have := h4 h; omega⟩
  rw [← h1, drop_cons hy, putG, if_pos ht]
theorem PutAt.keep {l : List Sp} {x0 x y : Sp} {k : Nat} {laid : Bool} {out : List Sp} (h : PutAt l x0 k laid x out) (hy : l[k]? = some y) (ht : ¬ touch y x) (hb : ¬ (laid = false ∧ behind y x)) : PutAt l x0 (k + 1) laid x (out ++ [y]) := by
  obtain ⟨h1, h2, h3, h4⟩ := h
  refine ⟨?_, h2, by simp; omega, fun h => by have := h4 h; simp; omega⟩
  rw [← h1, drop_cons hy, putG, if_neg ht, if_neg hb, List.append_assoc]; rfl
theorem PutAt.lay {l : List Sp} {x0 x y : Sp} {k : Nat} {out : List Sp} (h : PutAt l x0 k false x out) (hy : l[k]? = some y) (ht : ¬ touch y x) (hb : behind y x) : PutAt l x0 (k + 1) true x (out ++ [x] ++ [y]) := by
  obtain ⟨h1, h2, h3, h4⟩ := h
  have := h4 rfl
  refine ⟨?_, h2, by simp; omega, fun h => by cases h⟩
  rw [← h1, drop_cons hy, putG, if_neg ht, if_pos ⟨rfl, hb⟩, List.append_assoc, List.append_assoc]; rfl
theorem PutAt.end_ {l : List Sp} {x0 x : Sp} {k : Nat} {laid : Bool} {out : List Sp} (h : PutAt l x0 k laid x out) (hk : l.length = k) (hl : Norm l) (ho : okSp x0) : putS l x0 = if laid then out else out ++ [x] := by
  rw [← putG_false l x0 hl ho, ← h.1, List.drop_of_length_le (by omega), putG]
  cases laid <;> simp

/-- What put leaves: a new list. -/
theorem own_take {w : World} {base : Nat} {e : TypeId} {v : Value} {acc : List Sp} (h : w.ownsRow base e 3 v acc.length (spV acc)) : ∃ A c, v = .slice A acc.length c ∧ SlS w A acc.length acc ∧ acc.length ≤ c := by
  obtain ⟨A, c, rfl, hc, _⟩ := own_slice h
  exact ⟨A, c, rfl, Sl.of_own h, hc⟩


end Go.Proofs.Ytjjemoiblbehoaa
