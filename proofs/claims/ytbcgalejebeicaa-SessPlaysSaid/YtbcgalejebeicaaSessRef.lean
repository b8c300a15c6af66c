/-
  The document's sessions in memory.
-/
import Derived.Test.YtbcgalejebeicaaSessEnd
import Derived.Test.YtbcgalejebeicaaFlat
namespace Go.Proofs.Ytbcgalejebeicaa
open Go.RowKit
set_option linter.unusedVariables false

/-- A session by value: its token's slice. -/
abbrev RSes := Ses × Option Addr × Nat × Nat
def rsV1 (y : RSes) : List Value := [.int .i64 y.1.site, .slice y.2.1 y.2.2.1 y.2.2.2, .int .i64 y.1.op]
theorem rsV1_len (y : RSes) : (rsV1 y).length = 3 := rfl
/-- The document's sessions. -/
structure RefG (w : World) (fp : Nat → Prop) (p : Nat) (sites : Int) (l : List Ses) : Prop where
  inp : fp p
  ex : ∃ (lv : Value) (rows : List RSes), w.heap[p]? = some (.cells #[.int .i64 sites, lv] 45 (0, 0)) ∧ w.ownsRow 0 58 3 lv l.length (rows.flatMap rsV1) ∧ (∀ g, lv.ownBlock = some g → fp g) ∧
    rows.map (·.1) = l ∧ ∀ y : RSes, y ∈ rows → SlF w fp 5 y.2.1 y.2.2.1 1 (bsV y.1.tok) ∧ y.2.2.1 ≤ y.2.2.2 ∧ y.1.tok.length ≤ tokMax
  asks : Asks l
  lt : ∀ b, fp b → b < w.heap.size
section
variable {w w' : World} {fp fp' : Nat → Prop} {p : Nat} {sites : Int} {l : List Ses}
theorem RefG.kept (h : RefG w fp p sites l) (hk : Kept fp w w') (hsz : w.heap.size ≤ w'.heap.size) : RefG w' fp p sites l := by
  obtain ⟨lv, rows, h1, h2, h3, h4, h5⟩ := h.ex
  exact ⟨h.inp, ⟨lv, rows, hk _ _ h.inp h1, own_keep h2 h3 hk, h3, h4, fun y hy => ⟨(h5 y hy).1.kept hk, (h5 y hy).2⟩⟩, h.asks, fun b hb => Nat.lt_of_lt_of_le (h.lt b hb) hsz⟩
theorem RefG.below (h : RefG w fp p sites l) (hb : Below w.heap.size w w') : RefG w' fp p sites l := h.kept (Kept.below hb) hb.size
/-- The cells of the session of a number. -/
theorem RefG.at_ (h : RefG w fp p sites l) {k : Nat} {x : Ses} (hx : l[k]? = some x) :
    ∃ (g off c : Nat) (A : Option Addr) (n cc : Nat), Hid (off = 0) ∧ w.cell? ⟨p, 1, none⟩ = some (.slice (some ⟨g, off, none⟩) l.length c) ∧ w.cell? ⟨g, off + k * 3, none⟩ = some (.int .i64 x.site) ∧ w.cell? ⟨g, off + k * 3 + 1, none⟩ = some (.slice A n cc) ∧
      w.cell? ⟨g, off + k * 3 + 2, none⟩ = some (.int .i64 x.op) ∧ (∀ j, w.frozen? ⟨g, j, none⟩ = false) ∧ SlF w fp 5 A n 1 (bsV x.tok) ∧ n ≤ cc ∧ x.tok.length ≤ tokMax ∧ k < l.length := by
  obtain ⟨lv, rows, h1, h2, h3, h4, h5⟩ := h.ex
  have hk := (List.getElem?_eq_some_iff.1 hx).1
  obtain ⟨g, c, hv, _, _⟩ := h2.form (by omega)
  subst hv
  have hr : rows[k]? = some (rows[k]'(by rw [← h4, List.length_map] at hk; exact hk)) := List.getElem?_eq_getElem _
  obtain ⟨y, hy⟩ : ∃ y, rows[k]? = some y := ⟨_, hr⟩
  have hyx : y.1 = x := by
    rw [← h4, List.getElem?_map, hy] at hx
    simpa using hx
  obtain ⟨t1, t2, t3⟩ := h5 y (List.mem_of_getElem? hy)
  have hc := fun r (hr : r < 3) => (h2.cellAt (k * 3 + r) (by omega)).trans (flat_at rsV1_len rows k r y hy hr)
  refine ⟨g, 0, c, y.2.1, y.2.2.1, y.2.2.2, rfl, blk_cell h1 rfl, ?_, ?_, ?_, fun j => h2.frozenAt j, by rw [← hyx]; exact t1, t2, by rw [← hyx]; exact t3, hk⟩
  · rw [Nat.zero_add, ← hyx]; exact hc 0 (by omega)
  · rw [Nat.zero_add]; exact hc 1 (by omega)
  · rw [Nat.zero_add, ← hyx]; exact hc 2 (by omega)
theorem RefG.len_ (h : RefG w fp p sites l) : ∃ A c, w.cell? ⟨p, 1, none⟩ = some (.slice A l.length c) ∧ l.length ≤ maxLen := by
  obtain ⟨lv, rows, h1, h2, h3, h4, h5⟩ := h.ex
  obtain ⟨A, c, rfl, hc, hm⟩ := own_slice h2
  exact ⟨A, c, blk_cell h1 rfl, by omega⟩
theorem RefG.sites_ (h : RefG w fp p sites l) : w.cell? ⟨p, 0, none⟩ = some (.int .i64 sites) := by
  obtain ⟨lv, rows, h1, _⟩ := h.ex
  exact blk_cell h1 rfl
/-- A cell of a session is written. -/
theorem RefG.put (h : RefG w fp p sites l) {k g off c r : Nat} {x y : Ses} {u : Value} {A : Option Addr} {n cc : Nat} (hx : l[k]? = some x) (ho : Hid (off = 0)) (hlv : w.cell? ⟨p, 1, none⟩ = some (.slice (some ⟨g, off, none⟩) l.length c)) (hr : r < 3)
    (hy : ∀ A0 n0 c0, w.cell? ⟨g, off + k * 3 + 1, none⟩ = some (.slice A0 n0 c0) → (rsV1 (x, A0, n0, c0)).set r u = rsV1 (y, A, n, cc) ∧ (A = A0 ∧ n = n0 ∧ cc = c0 ∧ y.tok = x.tok ∨ SlF w fp 5 A n 1 (bsV y.tok) ∧ n ≤ cc ∧ y.tok.length ≤ tokMax)) (ha : Asks (l.set k y)) :
    RefG (w.setCell ⟨g, off + k * 3 + r, none⟩ u) fp p sites (l.set k y) ∧ Fr fp w (w.setCell ⟨g, off + k * 3 + r, none⟩ u) := by
  have ho' : off = 0 := ho
  subst ho'
  obtain ⟨lv, rows, h1, h2, h3, h4, h5⟩ := h.ex
  have hl := blk_cell (j := 1) h1 rfl
  rw [hlv] at hl
  injection hl with hl
  simp only [List.getElem_toArray, List.getElem_cons_succ, List.getElem_cons_zero] at hl
  subst hl
  have hk := (List.getElem?_eq_some_iff.1 hx).1
  obtain ⟨z, hz⟩ : ∃ z, rows[k]? = some z := ⟨_, List.getElem?_eq_getElem (by rw [← h4, List.length_map] at hk; exact hk)⟩
  have hzx : z.1 = x := by
    rw [← h4, List.getElem?_map, hz] at hx
    simpa using hx
  have hfg := h3 g rfl
  obtain ⟨cs, hcs⟩ := own_tag h2 (g := g) rfl
  have hc1 := (h2.cellAt (k * 3 + 1) (by omega)).trans (flat_at rsV1_len rows k 1 z hz (by omega))
  obtain ⟨e1, e2⟩ := hy z.2.1 z.2.2.1 z.2.2.2 (by rw [Nat.zero_add]; exact hc1)
  rw [Nat.zero_add]
  have hst := (h2.stored (k * 3 + r) u).1
  rw [flat_set rsV1_len rows k r z (y, A, n, cc) u hz hr (by rw [← hzx] at e1; exact e1)] at hst
  have hk1 : Kept (fun b => fp b ∧ b ≠ g) w (w.setCell ⟨g, k * 3 + r, none⟩ u) := Kept.set _ (fun hh => hh.2 rfl)
  have hpg : p ≠ g := tag_ne h1 hcs (by decide)
  have tk : ∀ {A n l0}, SlF w fp 5 A n 1 (bsV l0) → SlF (w.setCell ⟨g, k * 3 + r, none⟩ u) fp 5 A n 1 (bsV l0) := fun hh => hh.keep fun b cs' hb ho => hk1 b _ ⟨hb, tag_ne ho hcs (by decide)⟩ ho
  refine ⟨⟨h.inp, ⟨_, rows.set k (y, A, n, cc), hk1 _ _ ⟨h.inp, hpg⟩ h1, ?_, h3, ?_, ?_⟩, ha, fun b hb => by simpa using h.lt b hb⟩, (Fr.set w ⟨g, k * 3 + r, none⟩ u).mono fun i hi => .inl (by subst hi; exact hfg)⟩
  · rw [List.length_set]; exact hst
  · rw [List.map_set, h4]
  · intro v hv
    rcases List.mem_or_eq_of_mem_set hv with hv | rfl
    · exact ⟨tk (h5 v hv).1, (h5 v hv).2⟩
    · rcases e2 with ⟨rfl, rfl, rfl, e⟩ | ⟨e3, e4, e5⟩
      · obtain ⟨t1, t2, t3⟩ := h5 z (List.mem_of_getElem? hz)
        rw [hzx, ← e] at t1 t3
        exact ⟨tk t1, t2, t3⟩
      · exact ⟨tk e3, e4, e5⟩
end
end Go.Proofs.Ytbcgalejebeicaa
