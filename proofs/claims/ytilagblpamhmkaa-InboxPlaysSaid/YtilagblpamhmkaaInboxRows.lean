/-
  Rows of far writes to look at; Clean in a law.
-/
import Derived.Test.YtilagblpamhmkaaInboxClean
import Derived.Test.YtilagblpamhmkaaInboxSame
namespace Go.Proofs.Ytilagblpamhmkaa
open Go.RowKit
set_option linter.unusedVariables false

/-- Far writes that lie somewhere. -/
structure FRow (w : World) (A : Option Addr) (n : Nat) (rows : List RFa) : Prop where
  sl : Sl w A n 5 (rows.flatMap fV1)
  rc : ∀ y ∈ rows, RRow w y.1.rc y.2.1.1 y.2.1.2.1 y.2.1.2.2
  ro : ∀ y ∈ rows, Sl w y.2.2.1 y.2.2.2.1 1 (y.1.route.map (Value.int .i64))
  rl : ∀ y ∈ rows, y.2.2.2.1 ≤ 140737488351232
  right : ∀ y ∈ rows, rightF y.1 = true
section
variable {w w' : World} {A : Option Addr} {n : Nat} {rows : List RFa}
theorem FRow.below (h : FRow w A n rows) (b : Below w.heap.size w w') : FRow w' A n rows :=
  ⟨Sl.below h.sl b, fun y hy => (h.rc y hy).below b, fun y hy => Sl.below (h.ro y hy) b, h.rl, h.right⟩
theorem FRow.of {fp : Nat → Prop} (hs : Sl w A n 5 (rows.flatMap fV1)) (hd : ∀ y ∈ rows, FaD w fp y) : FRow w A n rows :=
  ⟨hs, fun y hy => (hd y hy).rrow, fun y hy => (hd y hy).ro.1, fun y hy => by have := (hd y hy).rl; omega, fun y hy => (hd y hy).right⟩
theorem FRow.len (h : FRow w A n rows) : rows.length = n := by
  have := h.sl.1
  rw [flat_len fV1_len] at this
  omega
/-- The cells of the write of a number. -/
theorem FRow.at_ (h : FRow w A n rows) {k : Nat} {y : RFa} (hy : rows[k]? = some y) : ∃ b off, A = some ⟨b, off, none⟩ ∧ w.cell? ⟨b, off + k * 5, none⟩ = some (.int .i64 y.1.src) ∧ w.cell? ⟨b, off + k * 5 + 1, none⟩ = some (.int .i64 y.1.seq) ∧ w.cell? ⟨b, off + k * 5 + 2, none⟩ = some (.string y.1.rc.key) ∧
    w.cell? ⟨b, off + k * 5 + 3, none⟩ = some (.slice y.2.1.1 y.2.1.2.1 y.2.1.2.2) ∧ w.cell? ⟨b, off + k * 5 + 4, none⟩ = some (.slice y.2.2.1 y.2.2.2.1 y.2.2.2.2) := by
  obtain ⟨b, off, rfl, hc⟩ := far_at h.sl hy
  exact ⟨b, off, rfl, hc 0 _ (by omega) rfl, hc 1 _ (by omega) rfl, hc 2 _ (by omega) rfl, hc 3 _ (by omega) rfl, hc 4 _ (by omega) rfl⟩
end
theorem cleanP {K : Nat → Prop} {w0 w : World} {p : Nat} {room : Int} {l : List Fa} (Av : Option Addr) (nv cv : Nat) (v : List Int) (h : IP K w0 w p room l) (hsv : SlI w Av nv v) (hnv : nv ≤ 140737488351232) (hvK : ∀ b off, 0 < nv * 1 → Av = some ⟨b, off, none⟩ → K b) (hl : l.length * 80 ≤ 140737488355328) :
    Calls Try.prog 27 #[.pointer (some ⟨p, 0, none⟩), .slice Av nv cv] w fun e w' => ∃ (A : Option Addr) (n c : Nat) (rows : List RFa), e = .returned (.slice A n c) ∧ rows.map (·.1) = l.filter (covB v) ∧ FRow w' A n rows ∧ IP K w0 w' p room (l.filter fun f => !covB v f) := by
  obtain ⟨fp, h1, h2, h3, h4⟩ := h
  refine (clean_any Av nv cv v h1 hsv hnv (fun b off hn e hf => h2 b hf (hvK b off hn e)) hl).mono ?_
  rintro e w' ⟨A, n, c, rows, fp', rfl, hm, own, hd, h', F, gr⟩
  exact ⟨A, n, c, rows, rfl, hm, FRow.of (Sl.of_own own) hd, .step h3 h2 h4 h' F gr⟩
theorem filter_at {α : Type} (P : α → Bool) : ∀ {l : List α} {k : Nat} {x : α}, l[k]? = some x → P x = true → (l.filter P)[((l.take k).filter P).length]? = some x
  | [], _, _, h, _ => by simp at h
  | a :: l, 0, x, h, hp => by
    simp only [List.getElem?_cons_zero, Option.some.injEq] at h
    subst h
    simp [hp]
  | a :: l, k + 1, x, h, hp => by
    simp only [List.getElem?_cons_succ] at h
    have ih := filter_at P h hp
    cases ha : P a <;> simp [ha, ih]
theorem filter_step {α : Type} (P : α → Bool) {l : List α} {k : Nat} {x : α} (h : l[k]? = some x) : ((l.take (k + 1)).filter P).length = ((l.take k).filter P).length + (if P x = true then 1 else 0) := by
  rw [List.take_add_one, h, List.filter_append, List.length_append]
  cases hp : P x <;> simp [hp]
theorem row_get {rows : List RFa} {l : List Fa} {k : Nat} {f : Fa} (hm : rows.map (·.1) = l) (h : l[k]? = some f) : ∃ y : RFa, rows[k]? = some y ∧ y.1 = f := by
  rw [← hm, List.getElem?_map, Option.map_eq_some_iff] at h
  exact h
end Go.Proofs.Ytilagblpamhmkaa
