/-
  Layer 4 in plain Lean: vectors of counts. No program is looked at here.
-/
import Derived.Test.YtgnedaihchmoaaaMA
namespace Go.Proofs.Ytgnedaihchmoaaa

/-- A slice of 64-bit numbers. -/
def SlI (w : World) (A : Option Addr) (n : Nat) (zs : List Int) : Prop := Sl w A n 1 (zs.map (Value.int .i64))
theorem SlI.len {w : World} {A : Option Addr} {n : Nat} {l : List Int} (h : SlI w A n l) : l.length = n := by have := h.1; rw [List.length_map] at this; omega
theorem SlI.at_ {w : World} {A : Option Addr} {n k : Nat} {l : List Int} (h : SlI w A n l) (hk : k < n) :
    ∃ (b off : Nat) (z : Int), A = some ⟨b, off, none⟩ ∧ l[k]? = some z ∧ w.cell? ⟨b, off + k, none⟩ = some (.int .i64 z) := by
  obtain ⟨b, off, u, rfl, hx, hc⟩ := Sl.at1 h hk
  simp only [List.getElem?_map, Option.map_eq_some_iff] at hx
  obtain ⟨y, hy, rfl⟩ := hx
  exact ⟨b, off, y, rfl, hy, hc⟩
/-- The cell under a head that is known already. -/
theorem SlI.cell {w : World} {b off n k : Nat} {l : List Int} (h : SlI w (some ⟨b, off, none⟩) n l) (hk : k < n) :
    ∃ z : Int, l[k]? = some z ∧ w.cell? ⟨b, off + k, none⟩ = some (.int .i64 z) := by
  obtain ⟨b', off', z, e, hz, hc⟩ := h.at_ hk
  injection e with e
  injection e with e1 e2
  subst e1 e2
  exact ⟨z, hz, hc⟩

theorem ints_one (l : List Int) : ∀ u ∈ l.map (Value.int .i64), u.oneCell' = true := by
  intro u hu
  simp only [List.mem_map] at hu
  obtain ⟨b, _, rfl⟩ := hu
  rfl

def okB (z : Int) : Bool := decide (0 ≤ z) && decide (z ≤ 4611686018427387904)
def rightB (l : List Int) : Bool := decide (1 ≤ l.length) && decide (l.length ≤ 16) && l.all okB
/-- The first k counts are right. -/
def OkTo (l : List Int) (k : Nat) : Prop := (l.take k).all okB = true

theorem take_snoc_some {α : Type} {l : List α} {k : Nat} {z : α} (h : l[k]? = some z) : l.take (k + 1) = l.take k ++ [z] := by
  rw [List.take_add_one, h]; rfl
theorem OkTo.zero (l : List Int) : OkTo l 0 := by simp [OkTo]
theorem OkTo.step {l : List Int} {k : Nat} {z : Int} (h : OkTo l k) (hz : l[k]? = some z) (h0 : 0 ≤ z) (h1 : z ≤ 4611686018427387904) : OkTo l (k + 1) := by
  unfold OkTo at *
  rw [take_snoc_some hz, List.all_append, h]
  simp [okB, h0, h1]
theorem right_bad {l : List Int} {k : Nat} {z : Int} (hz : l[k]? = some z) (hb : z < 0 ∨ 4611686018427387904 < z) : rightB l = false := by
  have h : l.all okB = false := by
    rw [List.all_eq_false]
    exact ⟨z, List.mem_of_getElem? hz, by simp [okB]; omega⟩
  simp [rightB, h]
theorem OkTo.all {l : List Int} {n : Nat} (h : OkTo l n) (hn : l.length = n) : rightB l = (decide (1 ≤ n) && decide (n ≤ 16)) := by
  unfold OkTo at h
  rw [List.take_of_length_le (by omega)] at h
  unfold rightB
  rw [h, hn]
  simp
theorem right_short {l : List Int} (h : l.length ≤ 0 ∨ 16 < l.length) : rightB l = false := by
  rcases h with h | h
  · have : ¬ (1 ≤ l.length) := by omega
    simp only [rightB, this, decide_false, Bool.false_and]
  · have : ¬ (l.length ≤ 16) := by omega
    simp only [rightB, this, decide_false, Bool.false_and, Bool.and_false]
theorem right_true {l : List Int} (h : rightB l = true) : 1 ≤ l.length ∧ l.length ≤ 16 ∧ ∀ z ∈ l, 0 ≤ z ∧ z ≤ 4611686018427387904 := by
  simp only [rightB, okB, Bool.and_eq_true, decide_eq_true_eq, List.all_eq_true] at h
  exact ⟨h.1.1, h.1.2, h.2⟩

/-- Two vectors' greater counts. -/
def joinL (a b : List Int) : List Int := List.zipWith max a b
/-- What Join answers: the vector, and the error's number. -/
def joinOk (a b : List Int) : Bool := rightB a && rightB b && decide (a.length = b.length)

theorem zip_take {α β γ : Type} (f : α → β → γ) (a : List α) (b : List β) (k : Nat) {x : α} {y : β} (hx : a[k]? = some x) (hy : b[k]? = some y) :
    (List.zipWith f a b).take (k + 1) = (List.zipWith f a b).take k ++ [f x y] := take_snoc_some (by simp [List.getElem?_zipWith, hx, hy])

/-- Below says: right, as long, and nowhere above. -/
def belowB (a b : List Int) : Bool := joinOk a b && (List.zipWith (fun x y => decide (x ≤ y)) a b).all id

end Go.Proofs.Ytgnedaihchmoaaa
