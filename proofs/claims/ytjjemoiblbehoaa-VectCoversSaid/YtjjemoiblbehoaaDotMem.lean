/-
  Slices of pairs of numbers (dots): how they lie in memory, and how they are opened as arguments. No program is looked at here.
-/
import Derived.Test.YtjjemoiblbehoaaSpanMem
namespace Go.Proofs.Ytjjemoiblbehoaa
open Go.ChangeShapes Go.WideShapes Go.ChangeAt Go.RowKit Go.Deep Go.Joins

def dV1 (x : Int × Int) : List Value := [.int .i64 x.1, .int .i64 x.2]
def dV : List (Int × Int) → List Value
  | [] => []
  | x :: l => dV1 x ++ dV l
def comp2 (x : Int × Int) (r : Nat) : Int := if r = 0 then x.1 else x.2
theorem dV_length (l : List (Int × Int)) : (dV l).length = l.length * 2 := by
  induction l with
  | nil => rfl
  | cons x l ih => simp only [dV, dV1, List.length_append, List.length_cons, List.length_nil, ih]; omega
theorem dV_append (a b : List (Int × Int)) : dV (a ++ b) = dV a ++ dV b := by
  induction a with
  | nil => rfl
  | cons x l ih => simp only [dV, List.cons_append, ih, List.append_assoc]
theorem dV_at (l : List (Int × Int)) : ∀ (i r : Nat) (x : Int × Int), l[i]? = some x → r < 2 → (dV l)[i * 2 + r]? = some (.int .i64 (comp2 x r)) := by
  induction l with
  | nil => intro i r x h; simp at h
  | cons y l ih =>
    intro i r x h hr
    cases i with
    | zero =>
      simp only [List.getElem?_cons_zero, Option.some.injEq] at h
      subst h
      match r, hr with
      | 0, _ => rfl
      | 1, _ => rfl
    | succ i =>
      simp only [List.getElem?_cons_succ] at h
      have e : (i + 1) * 2 + r = i * 2 + r + 2 := by omega
      rw [e]
      show (dV1 y ++ dV l)[i * 2 + r + 2]? = _
      rw [List.getElem?_append_right (by simp [dV1])]
      simpa [dV1] using ih i r x h hr
theorem dV_one (l : List (Int × Int)) : ∀ u ∈ dV l, u.oneCell' = true := by
  induction l with
  | nil => intro u hu; cases hu
  | cons x l ih =>
    intro u hu
    simp only [dV, List.mem_append] at hu
    rcases hu with hu | hu
    · simp only [dV1, List.mem_cons, List.mem_nil_iff, or_false] at hu
      rcases hu with rfl | rfl <;> rfl
    · exact ih u hu

/-- A slice of pairs of numbers. -/
def SlD (w : World) (A : Option Addr) (n : Nat) (l : List (Int × Int)) : Prop := Sl w A n 2 (dV l)
theorem SlD.len {w : World} {A : Option Addr} {n : Nat} {l : List (Int × Int)} (h : SlD w A n l) : l.length = n := by have := h.1; rw [dV_length] at this; omega
theorem SlD.at_ {w : World} {A : Option Addr} {n k : Nat} {l : List (Int × Int)} (h : SlD w A n l) (hk : k < n) :
    ∃ (b off : Nat) (x y : Int), A = some ⟨b, off, none⟩ ∧ l[k]? = some (x, y) ∧ w.cell? ⟨b, off + k * 2, none⟩ = some (.int .i64 x) ∧ w.cell? ⟨b, off + k * 2 + 1, none⟩ = some (.int .i64 y) := by
  obtain ⟨b, off, rfl, hc⟩ := h.2 (by omega)
  have hl := h.len
  have hx : l[k]? = some l[k] := List.getElem?_eq_getElem (by omega)
  refine ⟨b, off, _, _, rfl, hx, ?_, ?_⟩
  · exact hc (k * 2 + 0) _ (dV_at l k 0 _ hx (by omega))
  · rw [Nat.add_assoc]; exact hc (k * 2 + 1) _ (dV_at l k 1 _ hx (by omega))

def wfD (x : Int × Int) : Prop := (Lit.int .i64 x.1).wf = true ∧ (Lit.int .i64 x.2).wf = true

section
variable {H : Type} {enc : TypeId × Value → H} {P : Program} {w : World} {base : Nat} {t e : TypeId} {v : Value} {d : DataW H} {p : List MemPlace}

/-- A slice of dots. -/
theorem open_dots {f0 f1 : Field} (ht : P.underlying t = some (.slice e)) (he : P.underlying e = some (.struct #[f0, f1])) (hone : oneCellFields P #[f0, f1] = true) (hC : P.cellsOf e = 2)
    (u0 : P.underlying f0.type = some (.int .i64)) (u1 : P.underlying f1.type = some (.int .i64)) (hv : Value.okWide P w .any base t v) (h : DataW.Trod enc P w 0 (fun _ => true) true t v d p) :
    ∃ A len cap l, v = .slice A len cap ∧ SlD w A len l ∧ (∀ x ∈ l, wfD x) ∧ len ≤ cap ∧ cap ≤ maxLen ∧ CapOf d cap := by
  obtain ⟨a0, len, cap, rfl⟩ := okWide_slice ht hv
  obtain ⟨fuel, hf⟩ := h
  rcases open_slice ht hf with ⟨hcs, _⟩ | ⟨a, len', cap', m, n, D, Pl, hcs, _, hl, hm, hmm, hx, hi⟩
  · simp [Value.cells] at hcs
    obtain ⟨rfl, rfl, rfl⟩ := hcs
    exact ⟨none, 0, 0, [], rfl, Sl.nil _ _ _, by simp, Nat.le_refl _, by unfold maxLen; omega, .inl rfl⟩
  · simp [Value.cells] at hcs
    obtain ⟨rfl, rfl, rfl⟩ := hcs
    simp only [if_true] at hmm
    subst hmm
    simp only [Prod.mk.injEq] at hx
    obtain ⟨rfl, _⟩ := hx
    have key : ∀ i, i < len → ∃ x : Int × Int, wfD x ∧ ∀ r, r < 2 → w.cell? (a.add (i * 2 + r)) = some (.int .i64 (comp2 x r)) := by
      intro i hil
      obtain ⟨cs', hc, ht'⟩ := hi i (by omega)
      rw [hC] at hc
      obtain ⟨ys, n', _, _, hlen, hyl, hfl⟩ := DataW.trod_struct he ht'
      obtain ⟨_, hcl, hat⟩ := World.cells?_some hc
      match cs', hcl with
      | [c0, c1], _ =>
        obtain ⟨o0, q0⟩ := hone_of hone 0 f0 rfl
        obtain ⟨o1, q1⟩ := hone_of hone 1 f1 rfl
        match ys, hyl with
        | [y0, y1], _ =>
          have g0 : DataW.trod enc P w 0 (fun _ => true) true n' f0.type [c0] = some y0 := by simpa [o0, q0] using hfl 0 f0 rfl
          have g1 : DataW.trod enc P w 0 (fun _ => true) true n' f1.type [c1] = some y1 := by simpa [o1, q1] using hfl 1 f1 rfl
          obtain ⟨x0, e0, _, w0⟩ := DataW.trod_int u0 g0
          obtain ⟨x1, e1, _, w1⟩ := DataW.trod_int u1 g1
          injection e0 with e0
          injection e1 with e1
          subst e0 e1
          refine ⟨(x0, x1), ⟨w0, w1⟩, fun r hr => ?_⟩
          rw [← Go.Deep.add_add, hat r hr]
          match r, hr with
          | 0, _ => rfl
          | 1, _ => rfl
    obtain ⟨X, hX⟩ := choose_lt (α := Int × Int) (p := fun i x => wfD x ∧ ∀ r, r < 2 → w.cell? (a.add (i * 2 + r)) = some (.int .i64 (comp2 x r))) key
    refine ⟨_, len, _, (List.range len).map X, rfl, ⟨by rw [dV_length]; simp, fun hn => ?_⟩, ?_, hl, hm, .inr ⟨_, _, rfl, by simp; omega⟩⟩
    · obtain ⟨b, off, spot⟩ := a
      have hspot : spot = none := by simpa [Addr.add] using World.cell?_spot ((hX 0 (by omega)).2 0 (by omega))
      subst hspot
      refine ⟨b, off, rfl, fun j u hu => ?_⟩
      have hj : j < len * 2 := by
        rcases Nat.lt_or_ge j (len * 2) with h1 | h1
        · exact h1
        · rw [List.getElem?_eq_none (by rw [dV_length]; simpa using h1)] at hu; cases hu
      have hi2 : j / 2 < len := by omega
      have hg : ((List.range len).map X)[j / 2]? = some (X (j / 2)) := by simp [hi2]
      have h1 := dV_at _ (j / 2) (j % 2) _ hg (by omega)
      have e1 : j / 2 * 2 + j % 2 = j := by omega
      rw [e1, hu] at h1
      have h2 := (hX (j / 2) hi2).2 (j % 2) (by omega)
      rw [e1, add_plain'] at h2
      rw [h2, h1]
    · intro x hx
      simp only [List.mem_map, List.mem_range] at hx
      obtain ⟨i, hi', rfl⟩ := hx
      exact (hX i hi').1
end
end Go.Proofs.Ytjjemoiblbehoaa
