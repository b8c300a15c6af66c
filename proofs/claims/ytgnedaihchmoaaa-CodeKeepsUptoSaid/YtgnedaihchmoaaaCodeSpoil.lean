/-
  A message whose memory is being spoilt: its rows stay rows, and the heads in them stay. No program is looked at here.
-/
import Derived.Test.YtgnedaihchmoaaaMF
namespace Go.Proofs.Ytgnedaihchmoaaa
open Go.RowKit
set_option linter.unusedVariables false

/-- Whatever is stored wherever, a row stays a row. -/
theorem own_some_set {w : World} {B : Nat} {e : TypeId} {sz n : Nat} {v : Value} (h : ∃ ps, w.ownsRow B e sz v n ps) (b j : Nat) (u : Value) : ∃ ps, (w.setCell ⟨b, j, none⟩ u).ownsRow B e sz v n ps := by
  obtain ⟨ps, h1, h2⟩ := h
  rcases h2 with ⟨rfl, rfl⟩ | ⟨g, cap, cur, rfl, hb, hg, hn, hm, hs, ht⟩
  · exact ⟨[], by simp, .inl ⟨rfl, rfl⟩⟩
  · by_cases hbg : b = g
    · subst hbg
      refine ⟨(cur.setIfInBounds j u).toList.take (n * sz), ?_, .inr ⟨b, cap, cur.setIfInBounds j u, rfl, hb, heap_setCell_same w b j cur e u hg, hn, hm, by simpa using hs, rfl⟩⟩
      rw [List.length_take, Array.length_toList, Array.size_setIfInBounds, hs]
      exact Nat.min_eq_left (Nat.mul_le_mul_right _ hn)
    · exact ⟨ps, h1, .inr ⟨g, cap, cur, rfl, hb, (Below.heap_setCell w ⟨b, j, none⟩ u g (fun e => hbg e.symm)).trans hg, hn, hm, hs, ht⟩⟩
theorem flat_at2 : ∀ (rows : List RV) (i : Nat) (y : RV), rows[i]? = some y → (rows.flatMap vV1)[i * 5 + 2]? = some (.slice y.2.1 y.2.2.1 y.2.2.2)
  | [], i, y, h => by simp at h
  | z :: r, 0, y, h => by
    simp only [List.getElem?_cons_zero, Option.some.injEq] at h
    subst h
    rfl
  | z :: r, i + 1, y, h => by
    simp only [List.getElem?_cons_succ] at h
    have e : (i + 1) * 5 + 2 = (i * 5 + 2) + 5 := by omega
    rw [List.flatMap_cons, e, List.getElem?_append_right (by rw [vV1_len]; omega), vV1_len, Nat.add_sub_cancel]
    exact flat_at2 r i y h
theorem own_blk {w : World} {B n c : Nat} {A : Option Addr} {e : TypeId} {sz : Nat} {xs : List Value} (h : w.ownsRow B e sz (.slice A n c) n xs) (hn : 0 < n) : ∃ g, A = some ⟨g, 0, none⟩ ∧ B ≤ g ∧ g < w.heap.size := by
  rcases h.2 with ⟨_, h0⟩ | ⟨g, cap, cur, e, hb, hg, _⟩
  · omega
  · injection e with e1 e2 e3
    exact ⟨g, e1, hb, (Array.getElem?_eq_some_iff.1 hg).1⟩
/-- A row of versions whose values may have been spoilt: the heads of the Pasts stay. -/
def VRowS (w : World) (B : Nat) (v : Value) (n : Nat) (vr : List RV) : Prop := ∃ xs, w.ownsRow B 53 5 v n xs ∧ ∀ (i : Nat) (y : RV), vr[i]? = some y → xs[i * 5 + 2]? = some (.slice y.2.1 y.2.2.1 y.2.2.2)
theorem VRowS.set {w : World} {B n : Nat} {v : Value} {vr : List RV} (h : VRowS w B v n vr) (b k : Nat) (u : Value) : VRowS (w.setCell ⟨b, k * 5 + 4, none⟩ u) B v n vr := by
  obtain ⟨xs, h1, h2⟩ := h
  by_cases hb : v.ownBlock = some b
  · rcases h1.2 with ⟨rfl, _⟩ | ⟨g, cap, cur, rfl, hg⟩
    · cases hb
    · have e : g = b := by injection hb
      subst e
      refine ⟨_, (h1.stored (k * 5 + 4) u).1, fun i y hi => ?_⟩
      rw [List.getElem?_set_ne (by omega)]
      exact h2 i y hi
  · exact ⟨xs, ownsRow_setCell_other h1 (a := ⟨b, k * 5 + 4, none⟩) hb u, h2⟩
theorem VRowS.other {w : World} {B B' n n' j g sz : Nat} {A : Option Addr} {c : Nat} {v : Value} {vr : List RV} {e : TypeId} {ps : List Value} (h : VRowS w B v n vr) (hp : w.ownsRow B' e sz (.slice (some ⟨g, 0, none⟩) n' c) n' ps) (he : e ≠ 53) (u : Value) : VRowS (w.setCell ⟨g, j, none⟩ u) B v n vr := by
  obtain ⟨xs, h1, h2⟩ := h
  refine ⟨xs, ownsRow_setCell_other h1 (fun e2 => ?_) u, h2⟩
  rcases own_far hp h1 he with h3 | h3
  · cases h3
  · exact h3 e2.symm
/-- What is left of a message that is being spoilt. -/
structure SpoilM (w0 w : World) (B S : Nat) (Ar : Option Addr) (nr cr : Nat) (rows : List RR) (vrs : List (List RV)) (Av : Option Addr) (nv cv : Nat) : Prop where
  recs : w.ownsRow B 48 2 (.slice Ar nr cr) nr (rows.flatMap rV1)
  len : rows.length = nr ∧ vrs.length = nr
  vers : ∀ (i : Nat) (y : RR) (vr : List RV), rows[i]? = some y → vrs[i]? = some vr → VRowS w B (.slice y.2.1 y.2.2.1 y.2.2.2) y.2.2.1 vr ∧ vr.length = y.2.2.1 ∧ (∀ g, (Value.slice y.2.1 y.2.2.1 y.2.2.2).ownBlock = some g → g < S) ∧
    ∀ z ∈ vr, (∃ ps, w.ownsRow B 55 3 (.slice z.2.1 z.2.2.1 z.2.2.2) z.2.2.1 ps) ∧ ∀ g, (Value.slice z.2.1 z.2.2.1 z.2.2.2).ownBlock = some g → g < S
  vec : ∃ xs, w.ownsRow B 2 1 (.slice Av nv cv) nv xs
  vlt : ∀ g, (Value.slice Av nv cv).ownBlock = some g → g < S
  fr : Fr (fun i => B ≤ i ∧ i < S) w0 w
section
variable {w0 w : World} {B S : Nat} {Ar Av : Option Addr} {nr cr nv cv : Nat} {rows : List RR} {vrs : List (List RV)}
theorem choose_rows {α β : Type} {p : α → β → Prop} : ∀ {l : List α}, (∀ x ∈ l, ∃ y, p x y) → ∃ l' : List β, l'.length = l.length ∧ ∀ (i : Nat) (x : α) (y : β), l[i]? = some x → l'[i]? = some y → p x y
  | [], _ => ⟨[], rfl, by intro i x y h; simp at h⟩
  | x :: l, h => by
    obtain ⟨y, hy⟩ := h x (List.mem_cons_self ..)
    obtain ⟨l', hl, hp⟩ := choose_rows (l := l) (fun z hz => h z (List.mem_cons_of_mem _ hz))
    refine ⟨y :: l', by simp [hl], fun i a b ha hb => ?_⟩
    cases i with
    | zero => simp at ha hb; subst ha hb; exact hy
    | succ i => simp at ha hb; exact hp i a b ha hb
/-- What was read is whole yet, in whatever world its rows stayed. -/
theorem SpoilM.start {x : Mx} (h0 : OwnM w0 B x) (T : ∀ {e : TypeId} {sz n : Nat} {v : Value} {xs : List Value}, w0.ownsRow B e sz v n xs → w.ownsRow B e sz v n xs) : ∃ rows vrs, SpoilM w w B w0.heap.size x.Ar x.nr x.cr rows vrs x.Av x.nv x.cv ∧ (∀ (i : Nat) (y : RR), rows[i]? = some y → y.2.2.1 * 64 ≤ 140737488351232) ∧ ∀ vr ∈ vrs, ∀ z ∈ vr, z.2.2.1 * 24 ≤ 140737488351232 := by
  obtain ⟨rows, h1, h2⟩ := h0.recs
  have hl : rows.length = x.nr := by have := h2.1.1; rw [flat_len rV1_len] at this; omega
  obtain ⟨vrs, hv, hp⟩ := choose_rows (p := fun (y : RR) (vr : List RV) => vr.map (·.1) = y.1.vers ∧ OwnV w0 B (.slice y.2.1 y.2.2.1 y.2.2.2) y.2.2.1 vr) (l := rows) (fun y hy => (h2.2 y hy).1)
  refine ⟨rows, vrs, ⟨T h2.1, ⟨hl, by omega⟩, fun i y vr hy hvr => ?_, ⟨_, T h0.vec⟩, fun g hg => (h0.vec.lt g hg).2, Fr.refl _ _⟩, fun i y hy => ?_, fun vr hvr z hz => ?_⟩
  · obtain ⟨e1, e2⟩ := hp i y vr hy hvr
    exact ⟨⟨_, T e2.1, fun k z hz => flat_at2 vr k z hz⟩, e2.len, fun g hg => (e2.1.lt g hg).2, fun z hz => ⟨⟨_, T (e2.2 z hz).1⟩, fun g hg => ((e2.2 z hz).1.lt g hg).2⟩⟩
  · obtain ⟨_, h3, _, _, h6⟩ := h2.2 y (List.mem_of_getElem? hy)
    omega
  · obtain ⟨i, hi, rfl⟩ := List.getElem_of_mem hvr
    obtain ⟨_, e2⟩ := hp i _ _ (List.getElem?_eq_getElem (by omega)) (List.getElem?_eq_getElem hi)
    exact (e2.2 z hz).2.len
/-- The i-th record's cells. -/
theorem SpoilM.rec_at (h : SpoilM w0 w B S Ar nr cr rows vrs Av nv cv) {i : Nat} (hi : i < nr) : ∃ g y vr, Ar = some ⟨g, 0, none⟩ ∧ rows[i]? = some y ∧ vrs[i]? = some vr ∧ vr.length = y.2.2.1 ∧ w.cell? ⟨g, i * 2 + 1, none⟩ = some (.slice y.2.1 y.2.2.1 y.2.2.2) := by
  obtain ⟨g, rfl, hg, _⟩ := own_blk h.recs (by omega)
  have hy : rows[i]? = some (rows[i]'(by have := h.len.1; omega)) := List.getElem?_eq_getElem _
  have hv : vrs[i]? = some (vrs[i]'(by have := h.len.2; omega)) := List.getElem?_eq_getElem _
  refine ⟨g, _, _, rfl, hy, hv, (h.vers i _ _ hy hv).2.1, ?_⟩
  rw [h.recs.cellAt _ (by omega), flat_at rV1_len rows i 1 _ hy (by omega)]
  rfl
theorem SpoilM.ver_at (h : SpoilM w0 w B S Ar nr cr rows vrs Av nv cv) {i k : Nat} {y : RR} {vr : List RV} (hy : rows[i]? = some y) (hv : vrs[i]? = some vr) (hk : k < y.2.2.1) :
    ∃ g z, y.2.1 = some ⟨g, 0, none⟩ ∧ vr[k]? = some z ∧ w.cell? ⟨g, k * 5 + 2, none⟩ = some (.slice z.2.1 z.2.2.1 z.2.2.2) ∧ (∃ u, w.cell? ⟨g, k * 5 + 4, none⟩ = some u) ∧ (∀ j, w.frozen? ⟨g, j, none⟩ = false) ∧ B ≤ g ∧ g < S := by
  obtain ⟨⟨xs, h1, h2⟩, hl, hs, _⟩ := h.vers i y vr hy hv
  obtain ⟨g, e, hg, _⟩ := own_blk h1 (by omega)
  rw [e] at h1 hs
  have hz : vr[k]? = some (vr[k]'(by omega)) := List.getElem?_eq_getElem _
  refine ⟨g, _, e, hz, ?_, ?_, fun j => h1.frozenAt j, hg, hs g rfl⟩
  · rw [h1.cellAt _ (by omega)]; exact h2 k _ hz
  · rw [h1.cellAt _ (by omega)]
    exact ⟨_, List.getElem?_eq_getElem (by rw [h1.1]; omega)⟩
theorem SpoilM.rec_cell (h : SpoilM w0 w B S Ar nr cr rows vrs Av nv cv) {i g : Nat} {y : RR} (hA : Ar = some ⟨g, 0, none⟩) (hy : rows[i]? = some y) (hi : i < nr) : w.cell? ⟨g, i * 2 + 1, none⟩ = some (.slice y.2.1 y.2.2.1 y.2.2.2) := by
  have h1 := h.recs
  rw [hA] at h1
  rw [h1.cellAt _ (by omega), flat_at rV1_len rows i 1 _ hy (by omega)]
  rfl
theorem SpoilM.ver_cell (h : SpoilM w0 w B S Ar nr cr rows vrs Av nv cv) {i k g : Nat} {y : RR} {vr : List RV} {z : RV} (hy : rows[i]? = some y) (hv : vrs[i]? = some vr) (hA : y.2.1 = some ⟨g, 0, none⟩) (hk : k < y.2.2.1) (hz : vr[k]? = some z) : w.cell? ⟨g, k * 5 + 2, none⟩ = some (.slice z.2.1 z.2.2.1 z.2.2.2) := by
  obtain ⟨⟨xs, h1, h2⟩, _⟩ := h.vers i y vr hy hv
  rw [hA] at h1
  rw [h1.cellAt _ (by omega)]
  exact h2 k z hz
theorem SpoilM.past_at (h : SpoilM w0 w B S Ar nr cr rows vrs Av nv cv) {i k j : Nat} {y : RR} {vr : List RV} {z : RV} (hy : rows[i]? = some y) (hv : vrs[i]? = some vr) (hz : vr[k]? = some z) (hj : j < z.2.2.1) :
    ∃ g, z.2.1 = some ⟨g, 0, none⟩ ∧ (∃ u, w.cell? ⟨g, j * 3 + 2, none⟩ = some u) ∧ (∀ j, w.frozen? ⟨g, j, none⟩ = false) ∧ B ≤ g ∧ g < S := by
  obtain ⟨_, _, _, hp⟩ := h.vers i y vr hy hv
  obtain ⟨⟨ps, h1⟩, hs⟩ := hp z (List.mem_of_getElem? hz)
  obtain ⟨g, e, hg, _⟩ := own_blk h1 (by omega)
  rw [e] at h1 hs
  refine ⟨g, e, ?_, fun j => h1.frozenAt j, hg, hs g rfl⟩
  rw [h1.cellAt _ (by omega)]
  exact ⟨_, List.getElem?_eq_getElem (by rw [h1.1]; omega)⟩
theorem SpoilM.vec_at (h : SpoilM w0 w B S Ar nr cr rows vrs Av nv cv) {j : Nat} (hj : j < nv) : ∃ g, Av = some ⟨g, 0, none⟩ ∧ (∃ u, w.cell? ⟨g, j, none⟩ = some u) ∧ (∀ j, w.frozen? ⟨g, j, none⟩ = false) ∧ B ≤ g ∧ g < S := by
  obtain ⟨xs, h1⟩ := h.vec
  obtain ⟨g, rfl, hg, _⟩ := own_blk h1 (by omega)
  refine ⟨g, rfl, ?_, fun j => h1.frozenAt j, hg, h.vlt g rfl⟩
  rw [h1.cellAt _ (by omega)]
  exact ⟨_, List.getElem?_eq_getElem (by rw [h1.1]; omega)⟩
theorem spoil_far {w : World} {B B' n n' sz sz' g j : Nat} {c : Nat} {v : Value} {e e' : TypeId} {xs ps : List Value} (h : w.ownsRow B e sz v n xs) (hp : w.ownsRow B' e' sz' (.slice (some ⟨g, 0, none⟩) n' c) n' ps) (he : e' ≠ e) (u : Value) : (w.setCell ⟨g, j, none⟩ u).ownsRow B e sz v n xs := by
  refine ownsRow_setCell_other h (fun e2 => ?_) u
  rcases own_far hp h he with h3 | h3
  · cases h3
  · exact h3 e2.symm
theorem SpoilM.setVal (h : SpoilM w0 w B S Ar nr cr rows vrs Av nv cv) {i k : Nat} {y : RR} {vr : List RV} {g : Nat} (hy : rows[i]? = some y) (hv : vrs[i]? = some vr) (hg : y.2.1 = some ⟨g, 0, none⟩) (u : Value) :
    SpoilM w0 (w.setCell ⟨g, k * 5 + 4, none⟩ u) B S Ar nr cr rows vrs Av nv cv := by
  obtain ⟨⟨xs, h1, _⟩, _, hs, _⟩ := h.vers i y vr hy hv
  rw [hg] at h1 hs
  have hB := (h1.lt g rfl).1
  have hS := hs g rfl
  obtain ⟨ws, hw⟩ := h.vec
  refine ⟨spoil_far h.recs h1 (by decide) u, h.len, fun i' y' vr' hy' hv' => ?_, ⟨ws, spoil_far hw h1 (by decide) u⟩, h.vlt, h.fr.trans (Fr.set w ⟨g, k * 5 + 4, none⟩ u) fun q hq => .inl (by have hq2 : q = g := hq; subst hq2; exact ⟨hB, hS⟩)⟩
  obtain ⟨k1, k2, k3, k4⟩ := h.vers i' y' vr' hy' hv'
  exact ⟨k1.set g k u, k2, k3, fun z hz => ⟨own_some_set (k4 z hz).1 g _ u, (k4 z hz).2⟩⟩
theorem SpoilM.setPast (h : SpoilM w0 w B S Ar nr cr rows vrs Av nv cv) {i k j : Nat} {y : RR} {vr : List RV} {z : RV} {g : Nat} (hy : rows[i]? = some y) (hv : vrs[i]? = some vr) (hz : vr[k]? = some z) (hg : z.2.1 = some ⟨g, 0, none⟩) (u : Value) :
    SpoilM w0 (w.setCell ⟨g, j, none⟩ u) B S Ar nr cr rows vrs Av nv cv := by
  obtain ⟨_, _, _, hp⟩ := h.vers i y vr hy hv
  obtain ⟨⟨ps, h1⟩, hs⟩ := hp z (List.mem_of_getElem? hz)
  rw [hg] at h1 hs
  have hB := (h1.lt g rfl).1
  have hS := hs g rfl
  obtain ⟨ws, hw⟩ := h.vec
  refine ⟨spoil_far h.recs h1 (by decide) u, h.len, fun i' y' vr' hy' hv' => ?_, ⟨ws, spoil_far hw h1 (by decide) u⟩, h.vlt, h.fr.trans (Fr.set w ⟨g, j, none⟩ u) fun q hq => .inl (by have hq2 : q = g := hq; subst hq2; exact ⟨hB, hS⟩)⟩
  obtain ⟨⟨xs, k0, k1⟩, k2, k3, k4⟩ := h.vers i' y' vr' hy' hv'
  exact ⟨⟨xs, spoil_far k0 h1 (by decide) u, k1⟩, k2, k3, fun z hz => ⟨own_some_set (k4 z hz).1 g _ u, (k4 z hz).2⟩⟩
theorem SpoilM.setVec (h : SpoilM w0 w B S Ar nr cr rows vrs Av nv cv) {j g : Nat} (hg : Av = some ⟨g, 0, none⟩) (u : Value) :
    SpoilM w0 (w.setCell ⟨g, j, none⟩ u) B S Ar nr cr rows vrs Av nv cv := by
  obtain ⟨ws, hw⟩ := h.vec
  have hvlt := h.vlt
  rw [hg] at hw hvlt
  have hB := (hw.lt g rfl).1
  have hS := hvlt g rfl
  refine ⟨spoil_far h.recs hw (by decide) u, h.len, fun i' y' vr' hy' hv' => ?_, own_some_set h.vec g j u, h.vlt, h.fr.trans (Fr.set w ⟨g, j, none⟩ u) fun q hq => .inl (by have hq2 : q = g := hq; subst hq2; exact ⟨hB, hS⟩)⟩
  obtain ⟨⟨xs, k0, k1⟩, k2, k3, k4⟩ := h.vers i' y' vr' hy' hv'
  exact ⟨⟨xs, spoil_far k0 hw (by decide) u, k1⟩, k2, k3, fun z hz => ⟨own_some_set (k4 z hz).1 g _ u, (k4 z hz).2⟩⟩
end
end Go.Proofs.Ytgnedaihchmoaaa
