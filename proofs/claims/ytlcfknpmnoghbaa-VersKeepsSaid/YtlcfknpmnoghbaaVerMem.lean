/-
  Versions: plain, and how they lie in memory. No program is looked at here.
-/
import Derived.Test.YtlcfknpmnoghbaaSpanSmall
import Derived.Test.YtlcfknpmnoghbaaSpanRight
import Derived.Test.YtlcfknpmnoghbaaExt
import Derived.Test.YtlcfknpmnoghbaaFlat
import Derived.Test.YtlcfknpmnoghbaaShape
namespace Go.Proofs.Ytlcfknpmnoghbaa
open Go.RowKit
set_option linter.unusedVariables false

/-- A version. -/
structure Vr where
  s : Int
  n : Int
  past : List Sp
  gone : Bool
  val : ByteArray
deriving DecidableEq
def Vr.zero : Vr := ⟨0, 0, [], false, ByteArray.empty⟩
/-- A version by value: its past's slice. -/
abbrev RV := Vr × Option Addr × Nat × Nat
def vV (v : Vr) (A : Option Addr) (n c : Nat) : List Value := [.int .i64 v.s, .int .i64 v.n, .slice A n c, .bool v.gone, .string v.val]
def vV1 (y : RV) : List Value := vV y.1 y.2.1 y.2.2.1 y.2.2.2
theorem vV1_len (y : RV) : (vV1 y).length = 5 := rfl
theorem vV1_one (y : RV) : ∀ u ∈ vV1 y, u.oneCell' = true := by
  intro u hu
  simp only [vV1, vV, List.mem_cons, List.mem_nil_iff, or_false] at hu
  rcases hu with rfl | rfl | rfl | rfl | rfl <;> rfl
/-- What is known of a version's past and value. -/
structure VRow (w : World) (v : Vr) (A : Option Addr) (n c : Nat) : Prop where
  sl : SlS w A n v.past
  cap : n ≤ c
  len : n * 24 ≤ 140737488351232
  wf : (Lit.int .i64 v.s).wf = true ∧ (Lit.int .i64 v.n).wf = true
  wfp : ∀ x ∈ v.past, wfSp x
  str : v.val.size ≤ 140737488351232
/-- A slice of versions. -/
def SlV (w : World) (A : Option Addr) (n : Nat) (l : List Vr) : Prop :=
  ∃ rows : List RV, rows.map (·.1) = l ∧ Sl w A n 5 (rows.flatMap vV1) ∧ ∀ y, y ∈ rows → VRow w y.1 y.2.1 y.2.2.1 y.2.2.2
section
variable {w w' : World} {A : Option Addr} {n c : Nat} {v : Vr} {l : List Vr}
theorem VRow.below (h : VRow w v A n c) (hb : Below w.heap.size w w') : VRow w' v A n c := ⟨Sl.below h.sl hb, h.cap, h.len, h.wf, h.wfp, h.str⟩
theorem VRow.n9 (h : VRow w v A n c) : n ≤ 140737488351232 := by have := h.len; omega
theorem SlV.below (h : SlV w A n l) (hb : Below w.heap.size w w') : SlV w' A n l := by
  obtain ⟨rows, h1, h2, h3⟩ := h
  exact ⟨rows, h1, Sl.below h2 hb, fun y hy => (h3 y hy).below hb⟩
theorem SlV.ext (h : SlV w A n l) (x : Ext w) : SlV x.w A n l := h.below x.below
theorem SlV.nil (w : World) (A : Option Addr) : SlV w A 0 [] := ⟨[], rfl, Sl.nil _ _ _, by simp⟩
theorem SlV.len (h : SlV w A n l) : l.length = n := by
  obtain ⟨rows, h1, h2, h3⟩ := h
  have := h2.1
  rw [flat_len vV1_len] at this
  rw [← h1, List.length_map]
  omega
/-- The k-th version. -/
theorem SlV.at_ (h : SlV w A n l) {k : Nat} (hk : k < n) : ∃ (b off : Nat) (v : Vr) (Ap : Option Addr) (np cp : Nat), A = some ⟨b, off, none⟩ ∧ l[k]? = some v ∧ VRow w v Ap np cp ∧
    w.cell? ⟨b, off + k * 5, none⟩ = some (.int .i64 v.s) ∧ w.cell? ⟨b, off + k * 5 + 1, none⟩ = some (.int .i64 v.n) ∧ w.cell? ⟨b, off + k * 5 + 2, none⟩ = some (.slice Ap np cp) ∧ w.cell? ⟨b, off + k * 5 + 3, none⟩ = some (.bool v.gone) ∧ w.cell? ⟨b, off + k * 5 + 4, none⟩ = some (.string v.val) := by
  have hl := h.len
  obtain ⟨rows, h1, h2, h3⟩ := h
  obtain ⟨b, off, rfl, hc⟩ := h2.2 (by omega)
  have hrl : rows.length = l.length := by rw [← h1, List.length_map]
  obtain ⟨y, hy⟩ : ∃ y, rows[k]? = some y := ⟨_, List.getElem?_eq_getElem (by omega)⟩
  have e : ∀ j u, (vV1 y)[j]? = some u → w.cell? ⟨b, off + (k * 5 + j), none⟩ = some u := fun j u hu => by
    have hj : j < 5 := (List.getElem?_eq_some_iff.1 hu).1
    exact hc _ _ (by rw [flat_at vV1_len rows k j y hy hj]; exact hu)
  refine ⟨b, off, y.1, y.2.1, y.2.2.1, y.2.2.2, rfl, by rw [← h1, List.getElem?_map, hy]; rfl, h3 y (List.mem_of_getElem? hy), e 0 _ rfl, ?_, ?_, ?_, ?_⟩
  · rw [Nat.add_assoc]; exact e 1 _ rfl
  · rw [Nat.add_assoc]; exact e 2 _ rfl
  · rw [Nat.add_assoc]; exact e 3 _ rfl
  · rw [Nat.add_assoc]; exact e 4 _ rfl
end
abbrev spSh : Sh := .pair (.int .i64) (.pair (.int .i64) (.int .i64))
abbrev vrSh : Sh := .pair (.pair (.int .i64) (.int .i64)) (.pair (.sl 24 spSh) (.pair .bool .str))
theorem Rd.spans {w : World} {A : Option Addr} {n c : Nat} {l : List spSh.T} (h : Rd w (.sl 24 spSh) [.slice A n c] l) : SlS w A n l ∧ n ≤ c ∧ c * 24 ≤ 140737488351232 ∧ ∀ x ∈ l, wfSp x := by
  obtain ⟨A', n', c', e, h1, h2, h3, h4, h5⟩ := h
  simp only [List.cons.injEq, Value.slice.injEq, and_true] at e
  obtain ⟨rfl, rfl, rfl⟩ := e
  have key : ∀ (i : Nat) (x : spSh.T), l[i]? = some x → ∃ g off, A = some ⟨g, off, none⟩ ∧ (∀ j u, (spV1 x)[j]? = some u → w.cell? ⟨g, off + i * 3 + j, none⟩ = some u) ∧ wfSp x := by
    intro i x hx
    have hi := (List.getElem?_eq_some_iff.1 hx).1
    obtain ⟨g, off, rfl, hc⟩ := h5 (by omega)
    obtain ⟨xs, k1, k2, k3⟩ := hc i x hx
    obtain ⟨x1, x2, x3⟩ := x
    obtain ⟨c1, c2, rfl, ⟨rfl, w1⟩, d1, d2, rfl, ⟨rfl, w2⟩, rfl, w3⟩ := k3
    exact ⟨g, off, rfl, fun j u hu => k2 j u hu, w1, w2, w3⟩
  refine ⟨⟨by rw [spV_length]; omega, fun hn => ?_⟩, h1, h2, fun x hx => ?_⟩
  · obtain ⟨g, off, hA, hc⟩ := h5 (by omega)
    refine ⟨g, off, hA, fun j u hu => ?_⟩
    have hj : j < l.length * 3 := by
      have := (List.getElem?_eq_some_iff.1 hu).1
      rwa [spV_length] at this
    have hi3 : j / 3 < l.length := by omega
    obtain ⟨g', off', hA', hcx, _⟩ := key (j / 3) _ (List.getElem?_eq_getElem hi3)
    rw [hA] at hA'
    injection hA' with hA'
    injection hA' with e1 e2
    subst e1 e2
    have h1 := spV_at l (j / 3) (j % 3) _ (List.getElem?_eq_getElem hi3) (by omega)
    rw [show j / 3 * 3 + j % 3 = j by omega, hu] at h1
    have h2 := hcx (j % 3) u (by
      rw [h1]
      match hj3 : j % 3, (show j % 3 < 3 by omega) with
      | 0, _ => rfl
      | 1, _ => rfl
      | 2, _ => rfl)
    rw [show off + j = off + j / 3 * 3 + j % 3 by omega]
    exact h2
  · obtain ⟨i, hi, rfl⟩ := List.getElem_of_mem hx
    obtain ⟨_, _, _, _, h⟩ := key i _ (List.getElem?_eq_getElem hi)
    exact h
def vrOf (x : vrSh.T) : Vr := ⟨x.1.1, x.1.2, x.2.1, x.2.2.1, x.2.2.2⟩
theorem vr_open {w : World} {cs : List Value} {x : vrSh.T} (h : Rd w vrSh cs x) : ∃ (A : Option Addr) (n c : Nat), cs = vV (vrOf x) A n c ∧ VRow w (vrOf x) A n c := by
  obtain ⟨⟨s, n⟩, past, gone, val⟩ := x
  obtain ⟨c1, c2, rfl, ⟨a1, a2, rfl, ⟨rfl, w1⟩, rfl, w2⟩, d1, d2, rfl, hp, e1, e2, rfl, rfl, hv⟩ := h
  obtain ⟨A, np, cp, rfl, _⟩ := id hp
  obtain ⟨s1, s2, s3, s4⟩ := Rd.spans hp
  obtain ⟨rfl, hv⟩ := hv
  exact ⟨A, np, cp, rfl, s1, s2, by have := s2; omega, ⟨w1, w2⟩, s4, hv⟩
theorem Rd.vers {w : World} {A : Option Addr} {n c : Nat} {ls : List vrSh.T} (h : Rd w (.sl 64 vrSh) [.slice A n c] ls) : SlV w A n (ls.map vrOf) ∧ n ≤ c ∧ c * 64 ≤ 140737488351232 := by
  obtain ⟨h4, h1, h2, h3, h5⟩ := h.elem
  obtain ⟨rows, hl, hp⟩ := choose_lt' (α := RV) (n := n) (p := fun i y => (∃ x, ls[i]? = some x ∧ vrOf x = y.1) ∧ VRow w y.1 y.2.1 y.2.2.1 y.2.2.2 ∧ ∃ g off, A = some ⟨g, off, none⟩ ∧ ∀ j u, (vV1 y)[j]? = some u → w.cell? ⟨g, off + i * 5 + j, none⟩ = some u) (fun i hi => by
    obtain ⟨g, off, x, xs, hA, hx, _, hc, hr⟩ := h5 i hi
    obtain ⟨Ap, np, cp, rfl, hv⟩ := vr_open hr
    exact ⟨(vrOf x, Ap, np, cp), ⟨x, hx, rfl⟩, hv, g, off, hA, hc⟩)
  refine ⟨⟨rows, ?_, ⟨by rw [flat_len vV1_len, hl], fun hn => ?_⟩, fun y hy => ?_⟩, h1, h2⟩
  · apply List.ext_getElem?
    intro i
    rcases Nat.lt_or_ge i n with hi | hi
    · have hy : rows[i]? = some rows[i] := List.getElem?_eq_getElem (by omega)
      obtain ⟨⟨x, hx, e⟩, _⟩ := hp i _ hy
      rw [List.getElem?_map, List.getElem?_map, hy, hx]
      simp [e]
    · rw [List.getElem?_eq_none (by rw [List.length_map]; omega), List.getElem?_eq_none (by rw [List.length_map]; omega)]
  · have hn' : 0 < n := by omega
    obtain ⟨_, _, g, off, hA, _⟩ := hp 0 _ (List.getElem?_eq_getElem (by omega))
    refine ⟨g, off, hA, fun j u hu => ?_⟩
    have hj := (List.getElem?_eq_some_iff.1 hu).1
    rw [flat_len vV1_len, hl] at hj
    have hy : rows[j / 5]? = some (rows[j / 5]'(by omega)) := List.getElem?_eq_getElem _
    obtain ⟨_, _, g', off', hA', hc⟩ := hp (j / 5) _ hy
    rw [hA] at hA'
    injection hA' with hA'
    injection hA' with e1 e2
    subst e1 e2
    rw [show off + j = off + j / 5 * 5 + j % 5 by omega]
    refine hc (j % 5) u ?_
    rw [← hu, ← flat_at vV1_len rows (j / 5) (j % 5) _ hy (by omega)]
    congr 1
    omega
  · obtain ⟨i, hi, rfl⟩ := List.getElem_of_mem hy
    exact (hp i _ (List.getElem?_eq_getElem hi)).2.1
end Go.Proofs.Ytlcfknpmnoghbaa
