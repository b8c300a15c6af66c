/-
  Slices of spans (three numbers each) and dots by value: how they lie in memory, and how they are opened as arguments. No program is looked at here.
-/
import Derived.Test.YtcdbpimpmhfkhaaOpens
import Derived.Lib.SmallJoins
import Derived.Deep.Slices
import Derived.Deep.Fields
namespace Go.Proofs.Ytcdbpimpmhfkhaa
open Go.ChangeShapes Go.WideShapes Go.ChangeAt Go.RowKit Go.Deep Go.Joins

/-- A span: its site, its first count, its last one. -/
abbrev Sp := Int × Int × Int
def spV1 (x : Sp) : List Value := [.int .i64 x.1, .int .i64 x.2.1, .int .i64 x.2.2]
def spV : List Sp → List Value
  | [] => []
  | x :: l => spV1 x ++ spV l
def comp (x : Sp) (r : Nat) : Int := if r = 0 then x.1 else if r = 1 then x.2.1 else x.2.2
theorem spV_length (l : List Sp) : (spV l).length = l.length * 3 := by
  induction l with
  | nil => rfl
  | cons x l ih => simp only [spV, spV1, List.length_append, List.length_cons, List.length_nil, ih]; omega
theorem spV_append (a b : List Sp) : spV (a ++ b) = spV a ++ spV b := by
  induction a with
  | nil => rfl
  | cons x l ih => simp only [spV, List.cons_append, ih, List.append_assoc]
theorem spV_at (l : List Sp) : ∀ (i r : Nat) (x : Sp), l[i]? = some x → r < 3 → (spV l)[i * 3 + r]? = some (.int .i64 (comp x r)) := by
  induction l with
  | nil => intro i r x h; simp at h
  | cons y l ih =>
    intro i r x h hr
    cases i with
    | zero =>
      simp only [List.getElem?_cons_zero, Option.some.injEq] at h
      subst h
      match r, hr with
      | 0, _ => rfl
      | 1, _ => rfl
      | 2, _ => rfl
    | succ i =>
      simp only [List.getElem?_cons_succ] at h
      have e : (i + 1) * 3 + r = i * 3 + r + 3 := by omega
      rw [e]
      show (spV1 y ++ spV l)[i * 3 + r + 3]? = _
      rw [List.getElem?_append_right (by simp [spV1])]
      simpa [spV1] using ih i r x h hr
theorem spV_one (l : List Sp) : ∀ u ∈ spV l, u.oneCell' = true := by
  induction l with
  | nil => intro u hu; cases hu
  | cons x l ih =>
    intro u hu
    simp only [spV, List.mem_append] at hu
    rcases hu with hu | hu
    · simp only [spV1, List.mem_cons, List.mem_nil_iff, or_false] at hu
      rcases hu with rfl | rfl | rfl <;> rfl
    · exact ih u hu

/-- A slice of spans. -/
def SlS (w : World) (A : Option Addr) (n : Nat) (l : List Sp) : Prop := Sl w A n 3 (spV l)
theorem SlS.len {w : World} {A : Option Addr} {n : Nat} {l : List Sp} (h : SlS w A n l) : l.length = n := by have := h.1; rw [spV_length] at this; omega
theorem SlS.at_ {w : World} {A : Option Addr} {n k : Nat} {l : List Sp} (h : SlS w A n l) (hk : k < n) :
    ∃ (b off : Nat) (x y z : Int), A = some ⟨b, off, none⟩ ∧ l[k]? = some (x, y, z) ∧ w.cell? ⟨b, off + k * 3, none⟩ = some (.int .i64 x) ∧ w.cell? ⟨b, off + k * 3 + 1, none⟩ = some (.int .i64 y) ∧ w.cell? ⟨b, off + k * 3 + 2, none⟩ = some (.int .i64 z) := by
  obtain ⟨b, off, rfl, hc⟩ := h.2 (by omega)
  have hl := h.len
  have hx : l[k]? = some l[k] := List.getElem?_eq_getElem (by omega)
  refine ⟨b, off, _, _, _, rfl, hx, ?_, ?_, ?_⟩
  · exact hc (k * 3 + 0) _ (spV_at l k 0 _ hx (by omega))
  · rw [Nat.add_assoc]; exact hc (k * 3 + 1) _ (spV_at l k 1 _ hx (by omega))
  · rw [Nat.add_assoc]; exact hc (k * 3 + 2) _ (spV_at l k 2 _ hx (by omega))

def wfSp (x : Sp) : Prop := (Lit.int .i64 x.1).wf = true ∧ (Lit.int .i64 x.2.1).wf = true ∧ (Lit.int .i64 x.2.2).wf = true

section
variable {H : Type} {enc : TypeId × Value → H} {P : Program} {w : World} {base : Nat} {t e : TypeId} {v : Value} {d : DataW H} {p : List MemPlace}

/-- A dot by value. -/
theorem open_dot {f0 f1 : Field} {r : Reach} {b0 : Nat} {spare : Nat → Bool} {held : Bool} (hs : P.underlying t = some (.struct #[f0, f1])) (hone : oneCellFields P #[f0, f1] = true) (hC : P.cellsOf t = 2) (u0 : P.underlying f0.type = some (.int .i64)) (u1 : P.underlying f1.type = some (.int .i64))
    (hv : Value.okWide P w r b0 t v) (h : DataW.Trod enc P w base spare held t v d p) :
    ∃ x y : Int, v = .agg #[.int .i64 x, .int .i64 y] ∧ (Lit.int .i64 x).wf = true ∧ (Lit.int .i64 y).wf = true := by
  obtain ⟨c0, c1, y0, y1, m, rfl, rfl, rfl, h0, h1⟩ := open_agg2 hs hone hC hv h
  obtain ⟨x, e0, _, w0⟩ := DataW.trod_int u0 h0
  obtain ⟨y, e1, _, w1⟩ := DataW.trod_int u1 h1
  injection e0 with e0
  injection e1 with e1
  subst e0 e1
  exact ⟨x, y, rfl, w0, w1⟩

/-- A slice of spans. -/
theorem open_spans {f0 f1 f2 : Field} (ht : P.underlying t = some (.slice e)) (he : P.underlying e = some (.struct #[f0, f1, f2])) (hone : oneCellFields P #[f0, f1, f2] = true) (hC : P.cellsOf e = 3)
    (u0 : P.underlying f0.type = some (.int .i64)) (u1 : P.underlying f1.type = some (.int .i64)) (u2 : P.underlying f2.type = some (.int .i64)) (hv : Value.okWide P w .any base t v) (h : DataW.Trod enc P w 0 (fun _ => true) true t v d p) :
    ∃ A len cap l, v = .slice A len cap ∧ SlS w A len l ∧ (∀ x ∈ l, wfSp x) ∧ len ≤ cap ∧ cap ≤ maxLen ∧ CapOf d cap := by
  obtain ⟨a0, len, cap, rfl⟩ := okWide_slice ht hv
  obtain ⟨fuel, hf⟩ := h
  rcases open_slice ht hf with ⟨hcs, _⟩ | ⟨a, len', cap', m, n, D, Pl, hcs, _, hl, hm, hmm, hx, hi⟩
  · simp [Value.cells] at hcs
    obtain ⟨rfl, rfl, rfl⟩ := hcs
    exact ⟨none, 0, 0, [], rfl, Sl.nil _ _ _, by simp, Nat.le_refl _, by unfold maxLen; omega, .inl rfl⟩
  · simp [Value.cells] at hcs
    obtain ⟨rfl, rfl, rfl⟩ := hcs
    simp only [if_true] at hmm
    subst hmm
    simp only [Prod.mk.injEq] at hx
    obtain ⟨rfl, _⟩ := hx
    have key : ∀ i, i < len → ∃ x : Sp, wfSp x ∧ ∀ r, r < 3 → w.cell? (a.add (i * 3 + r)) = some (.int .i64 (comp x r)) := by
      intro i hil
      obtain ⟨cs', hc, ht'⟩ := hi i (by omega)
      rw [hC] at hc
      obtain ⟨ys, n', _, _, hlen, hyl, hfl⟩ := DataW.trod_struct he ht'
      obtain ⟨_, hcl, hat⟩ := World.cells?_some hc
      match cs', hcl with
      | [c0, c1, c2], _ =>
        obtain ⟨o0, q0⟩ := hone_of hone 0 f0 rfl
        obtain ⟨o1, q1⟩ := hone_of hone 1 f1 rfl
        obtain ⟨o2, q2⟩ := hone_of hone 2 f2 rfl
        match ys, hyl with
        | [y0, y1, y2], _ =>
          have g0 : DataW.trod enc P w 0 (fun _ => true) true n' f0.type [c0] = some y0 := by simpa [o0, q0] using hfl 0 f0 rfl
          have g1 : DataW.trod enc P w 0 (fun _ => true) true n' f1.type [c1] = some y1 := by simpa [o1, q1] using hfl 1 f1 rfl
          have g2 : DataW.trod enc P w 0 (fun _ => true) true n' f2.type [c2] = some y2 := by simpa [o2, q2] using hfl 2 f2 rfl
          obtain ⟨x0, e0, _, w0⟩ := DataW.trod_int u0 g0
          obtain ⟨x1, e1, _, w1⟩ := DataW.trod_int u1 g1
          obtain ⟨x2, e2, _, w2⟩ := DataW.trod_int u2 g2
          injection e0 with e0
          injection e1 with e1
          injection e2 with e2
          subst e0 e1 e2
          refine ⟨(x0, x1, x2), ⟨w0, w1, w2⟩, fun r hr => ?_⟩
          rw [← Go.Deep.add_add, hat r hr]
          match r, hr with
          | 0, _ => rfl
          | 1, _ => rfl
          | 2, _ => rfl
    obtain ⟨X, hX⟩ := choose_lt (α := Sp) (p := fun i x => wfSp x ∧ ∀ r, r < 3 → w.cell? (a.add (i * 3 + r)) = some (.int .i64 (comp x r))) key
    refine ⟨_, len, _, (List.range len).map X, rfl, ⟨by rw [spV_length]; simp, fun hn => ?_⟩, ?_, hl, hm, .inr ⟨_, _, rfl, by simp; omega⟩⟩
    · obtain ⟨b, off, spot⟩ := a
      have hspot : spot = none := by simpa [Addr.add] using World.cell?_spot ((hX 0 (by omega)).2 0 (by omega))
      subst hspot
      refine ⟨b, off, rfl, fun j u hu => ?_⟩
      have hj : j < len * 3 := by
        rcases Nat.lt_or_ge j (len * 3) with h1 | h1
        · exact h1
        · rw [List.getElem?_eq_none (by rw [spV_length]; simpa using h1)] at hu; cases hu
      have hi3 : j / 3 < len := by omega
      have hg : ((List.range len).map X)[j / 3]? = some (X (j / 3)) := by simp [hi3]
      have h1 := spV_at _ (j / 3) (j % 3) _ hg (by omega)
      have e1 : j / 3 * 3 + j % 3 = j := by omega
      rw [e1, hu] at h1
      have h2 := (hX (j / 3) hi3).2 (j % 3) (by omega)
      rw [e1, add_plain'] at h2
      rw [h2, h1]
    · intro x hx
      simp only [List.mem_map, List.mem_range] at hx
      obtain ⟨i, hi', rfl⟩ := hx
      exact (hX i hi').1
end
end Go.Proofs.Ytcdbpimpmhfkhaa
