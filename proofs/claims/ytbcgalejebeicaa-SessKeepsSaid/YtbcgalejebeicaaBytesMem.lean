/-
  Slices of slices of bytes: how they lie in memory. No program is looked at here.
-/
import Derived.Test.YtbcgalejebeicaaBase
namespace Go.Proofs.Ytbcgalejebeicaa
open Go.RowKit

/-- A slice of slices of bytes: the k-th reads as the k-th list. -/
def SlBB (w : World) (A : Option Addr) (n : Nat) (ls : List (List UInt8)) : Prop :=
  ls.length = n ∧ (0 < n → ∃ b off, A = some ⟨b, off, none⟩ ∧ ∀ k l, ls[k]? = some l → ∃ Ak nk ck, w.cell? ⟨b, off + k, none⟩ = some (.slice Ak nk ck) ∧ SlB w Ak nk l ∧ nk ≤ ck ∧ nk ≤ 140737488351232)
theorem SlBB.nil (w : World) (A : Option Addr) : SlBB w A 0 [] := ⟨rfl, fun h => absurd h (by simp)⟩
theorem SlBB.len {w : World} {A : Option Addr} {n : Nat} {ls : List (List UInt8)} (h : SlBB w A n ls) : ls.length = n := h.1
theorem SlBB.below {w w' : World} {A : Option Addr} {n : Nat} {ls : List (List UInt8)} (h : SlBB w A n ls) (hb : Below w.heap.size w w') : SlBB w' A n ls :=
  ⟨h.1, fun hn => by
    obtain ⟨b, off, e, hc⟩ := h.2 hn
    refine ⟨b, off, e, fun k l hl => ?_⟩
    obtain ⟨Ak, nk, ck, h1, h2, h3⟩ := hc k l hl
    exact ⟨Ak, nk, ck, (hb.cell (World.block_lt_of_cell? w _ h1)).trans h1, Sl.below h2 hb, h3⟩⟩
theorem SlBB.drewN {w : World} {A : Option Addr} {n : Nat} {ls : List (List UInt8)} (h : SlBB w A n ls) (k : Nat) : SlBB (w.drewN k) A n ls := h
theorem SlBB.at_ {w : World} {A : Option Addr} {n k : Nat} {ls : List (List UInt8)} (h : SlBB w A n ls) (hk : k < n) :
    ∃ (b off : Nat) (l : List UInt8) (Ak : Option Addr) (nk ck : Nat), A = some ⟨b, off, none⟩ ∧ ls[k]? = some l ∧ w.cell? ⟨b, off + k, none⟩ = some (.slice Ak nk ck) ∧ SlB w Ak nk l ∧ nk ≤ ck ∧ nk ≤ 140737488351232 := by
  obtain ⟨b, off, e, hc⟩ := h.2 (by omega)
  have hl := h.1
  have hx : ls[k]? = some ls[k] := List.getElem?_eq_getElem (by omega)
  obtain ⟨Ak, nk, ck, h1, h2, h3, h4⟩ := hc k _ hx
  exact ⟨b, off, _, Ak, nk, ck, e, hx, h1, h2, h3, h4⟩
/-- One slice behind the others. -/
theorem SlBB.lit3 {w : World} {A1 A2 A3 : Option Addr} {n1 n2 n3 c1 c2 c3 : Nat} {l1 l2 l3 : List UInt8} (t : TypeId) (h1 : SlB w A1 n1 l1) (h2 : SlB w A2 n2 l2) (h3 : SlB w A3 n3 l3)
    (m1 : n1 ≤ c1) (m2 : n2 ≤ c2) (m3 : n3 ≤ c3) (p1 : n1 ≤ 140737488351232) (p2 : n2 ≤ 140737488351232) (p3 : n3 ≤ 140737488351232) :
    SlBB (w.alloc (.cells #[.slice A1 n1 c1, .slice A2 n2 c2, .slice A3 n3 c3] t)) (some ⟨w.heap.size, 0, none⟩) 3 [l1, l2, l3] := by
  refine ⟨rfl, fun _ => ⟨w.heap.size, 0, rfl, fun k l hl => ?_⟩⟩
  have hb := (Below.refl w.heap.size w).alloc (Nat.le_refl _) (.cells #[.slice A1 n1 c1, .slice A2 n2 c2, .slice A3 n3 c3] t)
  rw [Nat.zero_add]
  match k, hl with
  | 0, hl => simp at hl; subst hl; exact ⟨A1, n1, c1, by rw [cell_of_row _ w.heap.size 0 _ t (0, 0) (heap_alloc_new w _)]; rfl, Sl.below h1 hb, m1, p1⟩
  | 1, hl => simp at hl; subst hl; exact ⟨A2, n2, c2, by rw [cell_of_row _ w.heap.size 1 _ t (0, 0) (heap_alloc_new w _)]; rfl, Sl.below h2 hb, m2, p2⟩
  | 2, hl => simp at hl; subst hl; exact ⟨A3, n3, c3, by rw [cell_of_row _ w.heap.size 2 _ t (0, 0) (heap_alloc_new w _)]; rfl, Sl.below h3 hb, m3, p3⟩
  | k + 3, hl => simp at hl
theorem SlBB.lit2 {w : World} {A1 A2 : Option Addr} {n1 n2 c1 c2 : Nat} {l1 l2 : List UInt8} (t : TypeId) (h1 : SlB w A1 n1 l1) (h2 : SlB w A2 n2 l2)
    (m1 : n1 ≤ c1) (m2 : n2 ≤ c2) (p1 : n1 ≤ 140737488351232) (p2 : n2 ≤ 140737488351232) :
    SlBB (w.alloc (.cells #[.slice A1 n1 c1, .slice A2 n2 c2] t)) (some ⟨w.heap.size, 0, none⟩) 2 [l1, l2] := by
  refine ⟨rfl, fun _ => ⟨w.heap.size, 0, rfl, fun k l hl => ?_⟩⟩
  have hb := (Below.refl w.heap.size w).alloc (Nat.le_refl _) (.cells #[.slice A1 n1 c1, .slice A2 n2 c2] t)
  rw [Nat.zero_add]
  match k, hl with
  | 0, hl => simp at hl; subst hl; exact ⟨A1, n1, c1, by rw [cell_of_row _ w.heap.size 0 _ t (0, 0) (heap_alloc_new w _)]; rfl, Sl.below h1 hb, m1, p1⟩
  | 1, hl => simp at hl; subst hl; exact ⟨A2, n2, c2, by rw [cell_of_row _ w.heap.size 1 _ t (0, 0) (heap_alloc_new w _)]; rfl, Sl.below h2 hb, m2, p2⟩
  | k + 2, hl => simp at hl
theorem SlBB.lit1 {w : World} {A1 : Option Addr} {n1 c1 : Nat} {l1 : List UInt8} (t : TypeId) (h1 : SlB w A1 n1 l1) (m1 : n1 ≤ c1) (p1 : n1 ≤ 140737488351232) :
    SlBB (w.alloc (.cells #[.slice A1 n1 c1] t)) (some ⟨w.heap.size, 0, none⟩) 1 [l1] := by
  refine ⟨rfl, fun _ => ⟨w.heap.size, 0, rfl, fun k l hl => ?_⟩⟩
  have hb := (Below.refl w.heap.size w).alloc (Nat.le_refl _) (.cells #[.slice A1 n1 c1] t)
  rw [Nat.zero_add]
  match k, hl with
  | 0, hl => simp at hl; subst hl; exact ⟨A1, n1, c1, by rw [cell_of_row _ w.heap.size 0 _ t (0, 0) (heap_alloc_new w _)]; rfl, Sl.below h1 hb, m1, p1⟩
  | k + 1, hl => simp at hl
end Go.Proofs.Ytbcgalejebeicaa
