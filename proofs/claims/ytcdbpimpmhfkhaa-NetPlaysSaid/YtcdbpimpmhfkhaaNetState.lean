/-
  The network in memory: the program's.
-/
import Derived.Test.YtcdbpimpmhfkhaaClone
import Derived.Test.YtcdbpimpmhfkhaaFlat
import Derived.Test.YtcdbpimpmhfkhaaFoot
import Derived.Maps.OwnSet
import Derived.Maps.Views
import Derived.DeepKeys4
import Derived.ProofKit
namespace Go.Proofs.Ytcdbpimpmhfkhaa
open Go.RowKit
set_option linter.unusedVariables false

def tokMax : Nat := 140737488351232
theorem tokMax_eq : tokMax = 140737488351232 := rfl
/-- A packet. -/
structure Pk where
  fs : Int
  fn : Int
  ts : Int
  tn : Int
  d : List UInt8
def Pk.wf (p : Pk) : Prop := (Lit.int .i64 p.fs).wf = true ∧ (Lit.int .i64 p.fn).wf = true ∧ (Lit.int .i64 p.ts).wf = true ∧ (Lit.int .i64 p.tn).wf = true
/-- A packet by value: its data's slice. -/
abbrev RPk := Pk × Option Addr × Nat × Nat
def pkC (p : Pk) (A : Option Addr) (n c : Nat) : List Value := [.int .i64 p.fs, .int .i64 p.fn, .int .i64 p.ts, .int .i64 p.tn, .slice A n c]
def pkV1 (y : RPk) : List Value := pkC y.1 y.2.1 y.2.2.1 y.2.2.2
theorem pkV1_len (y : RPk) : (pkV1 y).length = 5 := rfl
def RPk.blk (y : RPk) : Option Nat := (Value.slice y.2.1 y.2.2.1 y.2.2.2).ownBlock
structure PkRow (w : World) (fp : Nat → Prop) (y : RPk) : Prop where
  row : w.ownsRow 0 5 1 (.slice y.2.1 y.2.2.1 y.2.2.2) y.2.2.1 (bsV y.1.d)
  inn : ∀ g, RPk.blk y = some g → fp g
  len : y.1.d.length ≤ tokMax
  wf : y.1.wf
def Off (a b : RPk) : Prop := ∀ g, RPk.blk a = some g → RPk.blk b ≠ some g

/-- Two places, as a key of the map. -/
structure K4 where
  a : Int
  b : Int
  c : Int
  d : Int
deriving DecidableEq
def K4.v (k : K4) : Value := .agg #[.int .i64 k.a, .int .i64 k.b, .int .i64 k.c, .int .i64 k.d]
def K4.wf (k : K4) : Prop := (Lit.int .i64 k.a).wf = true ∧ (Lit.int .i64 k.b).wf = true ∧ (Lit.int .i64 k.c).wf = true ∧ (Lit.int .i64 k.d).wf = true
theorem Try.laid : laidOutB Try.prog = true := by kernel_rfl
theorem Try.rowKey : 68 < Try.prog.types.size := of_decide_eq_true (by kernel_rfl)
theorem Try.wideKey : (match Try.prog.underlying 68 with | some (.array _ _) | some (.struct _) => true | _ => false) = true := by kernel_rfl
theorem Try.lawKey : WideMaps.KeyLaw Try.prog 68 := deep_law_laid Try.laid (m := 3) (by omega) Try.rowKey (by kernel_rfl) Try.wideKey
theorem Try.keyed : Maps.Keyed Try.prog 68 := Maps.Keyed.of_law Try.lawKey
theorem Try.cellsKey : Try.prog.cellsOf 68 = 4 := by kernel_rfl
theorem Try.cellsAddr : Try.prog.cellsOf 29 = 2 := by kernel_rfl
theorem Try.cellsInt : Try.prog.cellsOf 3 = 1 := by kernel_rfl
theorem Try.sizeTypes : ∃ m, Try.prog.types.size = m + 2 := ⟨Try.prog.types.size - 2, by kernel_rfl⟩
theorem Try.keyTypeKey : Try.prog.keyType 68 = true := by kernel_rfl
def K4.lit (k : K4) : Lit := .string (keyBytes [.int .i64 k.a, .int .i64 k.b, .int .i64 k.c, .int .i64 k.d])
theorem key_of (k : K4) (h : k.wf) : keyOf Try.prog 68 k.v = some k.lit := by
  obtain ⟨h1, h2, h3, h4⟩ := h
  obtain ⟨m, hm⟩ := Try.sizeTypes
  unfold keyOf K4.v
  simp only [Try.underlying68]
  rw [if_pos (by rw [Try.keyTypeKey]; simp [Value.formed, Try.underlying68, Try.cellsKey]), hm]
  simp [Program.keyLits, Try.underlying68, Try.underlying29, Try.underlying3, Try.cellsKey, Try.cellsAddr, Try.cellsInt, List.range, List.range.loop, h1, h2, h3, h4, Value.cells, K4.lit]
theorem K4.lit_inj {k k' : K4} (h : k.wf) (h' : k'.wf) (e : k.lit = k'.lit) : k = k' := by
  have e1 := Try.keyed.inj (key_of k h) (by rw [e]; exact key_of k' h')
  cases k
  cases k'
  simpa [K4.v] using e1
/-- The map of parted places. -/
def CutMap (D : DataW Unit) (C : K4 → Bool) : Prop :=
  Maps.IsMap D ∧ ∀ k : K4, k.wf → D.atKey k.lit (.lit (.bool false)) = .lit (.bool (C k))
theorem CutMap.nil : CutMap (.map []) (fun _ => false) := ⟨⟨[], rfl⟩, fun _ _ => rfl⟩
theorem K4.key (k : K4) : WideAt.IsKeyLit k.lit := trivial
theorem CutMap.put {D : DataW Unit} {C : K4 → Bool} {k : K4} (h : CutMap D C) (hk : k.wf) (v : Bool) : CutMap (D.put k.lit (.lit (.bool v))) (fun k' => if k' = k then v else C k') := by
  refine ⟨h.1.put _ _, fun k' hk' => ?_⟩
  by_cases e : k' = k
  · subst e
    rw [Maps.atKey_put_same h.1 (K4.key k')]
    simp
  · rw [Maps.atKey_put_other (fun e' => e (K4.lit_inj hk' hk e'))]
    simp only [if_neg e]
    exact h.2 k' hk'
theorem CutMap.del {D : DataW Unit} {C : K4 → Bool} {k : K4} (h : CutMap D C) (hk : k.wf) : CutMap (D.del k.lit) (fun k' => if k' = k then false else C k') := by
  refine ⟨by obtain ⟨es, rfl⟩ := h.1; exact ⟨_, rfl⟩, fun k' hk' => ?_⟩
  by_cases e : k' = k
  · subst e
    rw [Maps.atKey_del_same]
    simp
  · rw [Maps.atKey_del_other (fun e' => e (K4.lit_inj hk' hk e'))]
    simp only [if_neg e]
    exact h.2 k' hk'

theorem tag_ne {w : World} {a b : Nat} {ca cb : Array Value} {ta tb : TypeId} {ra rb : Nat × Nat} (ha : w.heap[a]? = some (.cells ca ta ra)) (hb : w.heap[b]? = some (.cells cb tb rb)) (ht : ta ≠ tb) : a ≠ b := by
  rintro rfl
  rw [ha] at hb
  injection hb with hb
  injection hb with _ h2
  exact ht h2
theorem map_ne {H : Type} {P : Program} {k : TypeId} {R : Value → Option (DataW H × List MemPlace)} {n : Nat} {D : DataW H} {w : World} {a b : Nat} {ca : Array Value} {ta : TypeId} {ra : Nat × Nat} (ha : w.heap[a]? = some (.cells ca ta ra)) (hb : w.ownsMap P k R b n D) : a ≠ b := by
  rintro rfl
  obtain ⟨es, clock, hb, _⟩ := hb
  rw [ha] at hb
  injection hb with hb
  cases hb
theorem heap_lt {w : World} {a : Nat} {o : Obj} (h : w.heap[a]? = some o) : a < w.heap.size := (Array.getElem?_eq_some_iff.1 h).1
theorem blk_cell {w : World} {g j : Nat} {t : TypeId} {cs : Array Value} {v : Value} (h : w.heap[g]? = some (.cells cs t (0, 0))) (hj : cs[j]? = some v) : w.cell? ⟨g, j, none⟩ = some v := by
  rw [cell_of_row w g j cs t (0, 0) h]; exact hj
theorem blk_free {w : World} {g : Nat} {t : TypeId} {cs : Array Value} (h : w.heap[g]? = some (.cells cs t (0, 0))) (j : Nat) : w.frozen? ⟨g, j, none⟩ = false := frozen_of_row w g j cs t h

/-- Where the network lies. -/
structure NGeo where
  p : Nat
  mb : Nat
/-- What was counted. -/
structure Cnt where
  s : Int
  t : Int
  x : Int
structure NetG (w : World) (fp : Nat → Prop) (G : NGeo) (l : List Pk) (C : K4 → Bool) (c : Cnt) (m : Nat) : Prop where
  inp : fp G.p
  inm : fp G.mb
  ex : ∃ (lv : Value) (rows : List RPk), w.heap[G.p]? = some (.cells #[lv, .map (some G.mb), .int .i64 c.s, .int .i64 c.t, .int .i64 c.x] 63 (0, 0)) ∧ w.ownsRow 0 32 5 lv l.length (rows.flatMap pkV1) ∧ (∀ g, lv.ownBlock = some g → fp g) ∧
    rows.map (·.1) = l ∧ (∀ y, y ∈ rows → PkRow w fp y) ∧ rows.Pairwise Off
  map : ∃ D, w.ownsMap Try.prog 68 (plainElem Try.prog 4) G.mb m D ∧ CutMap D C
  len : l.length ≤ 4096
  cnt : 0 ≤ c.s ∧ 0 ≤ c.t ∧ 0 ≤ c.x
  lt : ∀ b, fp b → b < w.heap.size
section
variable {w w' : World} {fp fp' : Nat → Prop} {G : NGeo} {l : List Pk} {C : K4 → Bool} {c : Cnt} {m : Nat}
theorem PkRow.kept {y : RPk} (h : PkRow w fp y) (hk : Kept fp w w') : PkRow w' fp y := ⟨own_keep h.row h.inn hk, h.inn, h.len, h.wf⟩
theorem PkRow.mono {y : RPk} (h : PkRow w fp y) (hs : ∀ i, fp i → fp' i) : PkRow w fp' y := ⟨h.row, fun g hg => hs g (h.inn g hg), h.len, h.wf⟩
theorem PkRow.sl {y : RPk} (h : PkRow w fp y) : SlB w y.2.1 y.2.2.1 y.1.d ∧ y.2.2.1 ≤ y.2.2.2 ∧ y.2.2.1 ≤ tokMax := by
  obtain ⟨A', c', e, hc, _⟩ := own_slice h.row
  injection e with e1 e2 e3
  have hs := Sl.of_own h.row
  have hl := SlB.len (show SlB w y.2.1 y.2.2.1 y.1.d from hs)
  exact ⟨hs, by omega, by have := h.len; omega⟩
theorem NetG.kept (h : NetG w fp G l C c m) (hk : Kept fp w w') (hsz : w.heap.size ≤ w'.heap.size) : NetG w' fp G l C c m := by
  obtain ⟨lv, rows, h1, h2, h3, h4, h5, h6⟩ := h.ex
  obtain ⟨D, hD, hA⟩ := h.map
  exact ⟨h.inp, h.inm, ⟨lv, rows, hk _ _ h.inp h1, own_keep h2 h3 hk, h3, h4, fun y hy => (h5 y hy).kept hk, h6⟩, ⟨D, map_keep hD h.inm hk, hA⟩, h.len, h.cnt, fun b hb => Nat.lt_of_lt_of_le (h.lt b hb) hsz⟩
theorem NetG.below (h : NetG w fp G l C c m) (hb : Below w.heap.size w w') : NetG w' fp G l C c m := h.kept (Kept.below hb) hb.size
theorem NetG.len_ (h : NetG w fp G l C c m) : ∃ A k, w.cell? ⟨G.p, 0, none⟩ = some (.slice A l.length k) ∧ l.length ≤ k := by
  obtain ⟨lv, rows, h1, h2, _⟩ := h.ex
  obtain ⟨A, k, rfl, hc, _⟩ := own_slice h2
  exact ⟨A, k, blk_cell h1 rfl, hc⟩
/-- A packet under way: its cells. -/
theorem NetG.at_ (h : NetG w fp G l C c m) {i : Nat} {p : Pk} (hx : l[i]? = some p) :
    ∃ (g k : Nat) (A : Option Addr) (n cc : Nat), w.cell? ⟨G.p, 0, none⟩ = some (.slice (some ⟨g, 0, none⟩) l.length k) ∧ (∀ j u, (pkC p A n cc)[j]? = some u → w.cell? ⟨g, i * 5 + j, none⟩ = some u) ∧ SlB w A n p.d ∧ n ≤ cc ∧ n ≤ tokMax ∧ p.wf ∧ i < l.length ∧ (∀ b off s, 0 < n → A = some ⟨b, off, s⟩ → fp b) := by
  obtain ⟨lv, rows, h1, h2, h3, h4, h5, _⟩ := h.ex
  have hk := (List.getElem?_eq_some_iff.1 hx).1
  obtain ⟨g, k, hv, _, _⟩ := h2.form (by omega)
  subst hv
  obtain ⟨y, hy⟩ : ∃ y, rows[i]? = some y := ⟨_, List.getElem?_eq_getElem (by rw [← h4, List.length_map] at hk; exact hk)⟩
  have hyx : y.1 = p := by
    rw [← h4, List.getElem?_map, hy] at hx
    simpa using hx
  have hr := h5 y (List.mem_of_getElem? hy)
  obtain ⟨t1, t2, t3⟩ := hr.sl
  subst hyx
  refine ⟨g, k, y.2.1, y.2.2.1, y.2.2.2, blk_cell h1 rfl, fun j u hu => ?_, t1, t2, t3, hr.wf, hk, fun b off s hn e => hr.inn b (by unfold RPk.blk; rw [e]; rfl)⟩
  have hj : j < 5 := (List.getElem?_eq_some_iff.1 hu).1
  rw [h2.cellAt (i * 5 + j) (by omega), flat_at pkV1_len rows i j y hy hj]
  exact hu
end
/-- Five cells written, one behind the other. -/
def set5 (w : World) (g : Nat) (v0 v1 v2 v3 v4 : Value) : World := ((((w.setCell ⟨g, 0, none⟩ v0).setCell ⟨g, 1, none⟩ v1).setCell ⟨g, 2, none⟩ v2).setCell ⟨g, 3, none⟩ v3).setCell ⟨g, 4, none⟩ v4
section
variable {w : World} {g : Nat} {v0 v1 v2 v3 v4 : Value}
theorem set5_heap {a0 a1 a2 a3 a4 : Value} {t : TypeId} (h : w.heap[g]? = some (.cells #[a0, a1, a2, a3, a4] t (0, 0))) : (set5 w g v0 v1 v2 v3 v4).heap[g]? = some (.cells #[v0, v1, v2, v3, v4] t (0, 0)) := by
  unfold set5
  rw [heap_setCell_same _ g 4 _ _ _ (heap_setCell_same _ g 3 _ _ _ (heap_setCell_same _ g 2 _ _ _ (heap_setCell_same _ g 1 _ _ _ (heap_setCell_same _ g 0 _ _ _ h))))]
  rfl
theorem set5_other {k : Nat} (h : k ≠ g) : (set5 w g v0 v1 v2 v3 v4).heap[k]? = w.heap[k]? := by
  unfold set5
  iterate 5 rw [Below.heap_setCell _ _ _ _ h]
theorem set5_fr : Fr (fun i => i = g) w (set5 w g v0 v1 v2 v3 v4) := by
  have f := fun (w : World) (j : Nat) (u : Value) => Fr.set w ⟨g, j, none⟩ u
  exact ((((f w 0 v0).trans (f _ 1 v1) (fun _ h => .inl h)).trans (f _ 2 v2) (fun _ h => .inl h)).trans (f _ 3 v3) (fun _ h => .inl h)).trans (f _ 4 v4) (fun _ h => .inl h)
end
theorem Try.isPk : (match (some (Try.prog.underlying 32)) with | some (some (.struct _)) => true | _ => false) = true := by kernel_rfl
theorem Try.infoPkSize : (Try.prog.info? 32).map (·.size) = some 5 := by kernel_rfl
/-- What a method that answers v leaves. -/
def NetAns (w : World) (fp : Nat → Prop) (G : NGeo) (l : List Pk) (C : K4 → Bool) (c : Cnt) (m : Nat) (v : Value) (e : Ending) (w' : World) : Prop :=
  e = .returned v ∧ ∃ fp', NetG w' fp' G l C c m ∧ Fr fp w w' ∧ Grow w fp fp'
end Go.Proofs.Ytcdbpimpmhfkhaa
