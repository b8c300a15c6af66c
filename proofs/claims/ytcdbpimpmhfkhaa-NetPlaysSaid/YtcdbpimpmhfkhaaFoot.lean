/-
  Footprints: which blocks a piece of state lies in, and what a call leaves alone. No program is looked at here.
-/
import Derived.Test.YtcdbpimpmhfkhaaBase
import Derived.OneCell
import Derived.Maps.OwnSet
import Derived.Lib.SlBytesConst
namespace Go.Proofs.Ytcdbpimpmhfkhaa
open Go.RowKit
set_option linter.unusedVariables false

/-- Outside of fp nothing that was there has turned. -/
structure Fr (fp : Nat → Prop) (w w' : World) : Prop where
  os : w'.os = w.os
  tape : w'.tape = w.tape
  output : w'.output = w.output
  size : w.heap.size ≤ w'.heap.size
  block : ∀ k, k < w.heap.size → ¬ fp k → w'.heap[k]? = w.heap[k]?
section
variable {fp fp' : Nat → Prop} {w w' a b c : World}
theorem Fr.refl (fp : Nat → Prop) (w : World) : Fr fp w w := ⟨rfl, rfl, rfl, Nat.le_refl _, fun _ _ _ => rfl⟩
theorem Fr.trans (h : Fr fp a b) (k : Fr fp' b c) (hs : ∀ i, fp' i → fp i ∨ a.heap.size ≤ i) : Fr fp a c :=
  ⟨k.os.trans h.os, k.tape.trans h.tape, k.output.trans h.output, Nat.le_trans h.size k.size, fun i hi hn => (k.block i (Nat.lt_of_lt_of_le hi h.size) (fun hf => (hs i hf).elim hn (fun h => by omega))).trans (h.block i hi hn)⟩
theorem Fr.mono (h : Fr fp a b) (hs : ∀ i, fp i → fp' i ∨ a.heap.size ≤ i) : Fr fp' a b :=
  ⟨h.os, h.tape, h.output, h.size, fun i hi hn => h.block i hi (fun hf => (hs i hf).elim hn (fun h => by omega))⟩
theorem Fr.drew (h : Fr fp a b) : Fr fp a b.drew := ⟨h.os, h.tape, h.output, h.size, h.block⟩
theorem Fr.drewN (h : Fr fp a b) (k : Nat) : Fr fp a (b.drewN k) := ⟨h.os, h.tape, h.output, h.size, h.block⟩
theorem Fr.of_below (h : Below a.heap.size a b) : Fr fp a b := ⟨h.os, h.tape, h.output, h.size, fun i hi _ => h.block i hi⟩
theorem Fr.below {B : Nat} (h : Fr fp a b) (hf : ∀ i, fp i → B ≤ i) (hB : B ≤ a.heap.size) : Below B a b :=
  ⟨h.os, h.tape, h.output, h.size, fun i hi => h.block i (by omega) (fun hp => by have := hf i hp; omega)⟩
theorem Fr.of_grown {row : Option Nat} (h : a.grownBy b row) : Fr (fun i => some i = row) a b := ⟨h.os, h.tape, h.output, h.size, fun i hi hn => h.block i hi hn⟩
theorem Fr.set (w : World) (p : Addr) (u : Value) : Fr (fun i => i = p.block) w (w.setCell p u) := ⟨rfl, rfl, rfl, by simp, fun i _ hn => Below.heap_setCell w p u i hn⟩
theorem Fr.alloc (fp : Nat → Prop) (w : World) (o : Obj) : Fr fp w (w.alloc o) := ⟨rfl, rfl, rfl, by simp, fun i hi _ => Below.heap_alloc w o i hi⟩

/-- Each block of fp holds what it held. -/
def Kept (fp : Nat → Prop) (w w' : World) : Prop := ∀ b o, fp b → w.heap[b]? = some o → w'.heap[b]? = some o
theorem Fr.kept (h : Fr fp w w') (hd : ∀ i, fp' i → ¬ fp i) : Kept fp' w w' := fun b o hb ho => (h.block b (Array.getElem?_eq_some_iff.1 ho).1 (hd b hb)).trans ho
theorem Kept.below (h : Below w.heap.size w w') : Kept fp w w' := fun b o _ ho => (h.block b (Array.getElem?_eq_some_iff.1 ho).1).trans ho
theorem Kept.refl (fp : Nat → Prop) (w : World) : Kept fp w w := fun _ _ _ h => h
theorem Kept.trans (h : Kept fp a b) (k : Kept fp b c) : Kept fp a c := fun i o hi ho => k i o hi (h i o hi ho)
theorem Kept.mono (h : Kept fp a b) (hs : ∀ i, fp' i → fp i) : Kept fp' a b := fun i o hi ho => h i o (hs i hi) ho
theorem Kept.drew (fp : Nat → Prop) (w : World) : Kept fp w w.drew := fun _ _ _ h => h
theorem Kept.drewN (fp : Nat → Prop) (w : World) (k : Nat) : Kept fp w (w.drewN k) := fun _ _ _ h => h
theorem Kept.alloc (fp : Nat → Prop) (w : World) (o : Obj) : Kept fp w (w.alloc o) := fun b _ _ ho => (Below.heap_alloc w o b (Array.getElem?_eq_some_iff.1 ho).1).trans ho
theorem Kept.set {p : Addr} (u : Value) (hp : ¬ fp p.block) : Kept fp w (w.setCell p u) := fun b _ hb ho => (Below.heap_setCell w p u b (fun e => hp (e ▸ hb))).trans ho
theorem Kept.grown {row : Option Nat} (h : w.grownBy w' row) (hr : ∀ g, row = some g → ¬ fp g) : Kept fp w w' :=
  fun b _ hb ho => (h.block b (Array.getElem?_eq_some_iff.1 ho).1 (fun e => hr b e.symm hb)).trans ho
theorem Kept.cell (h : Kept fp w w') {p : Addr} {v : Value} (hp : fp p.block) (hc : w.cell? p = some v) : w'.cell? p = some v := by
  have hlt := World.block_lt_of_cell? w p hc
  have : w'.heap[p.block]? = w.heap[p.block]? := by
    have ho : w.heap[p.block]? = some w.heap[p.block] := Array.getElem?_eq_getElem hlt
    rw [h _ _ hp ho, ho]
  rw [World.cell?_of_block this]; exact hc

/-- Where a call's new state lies: where the old one lay, or in new blocks. -/
def Grow (w : World) (fp fp' : Nat → Prop) : Prop := ∀ i, fp' i → fp i ∨ w.heap.size ≤ i
theorem Grow.refl (w : World) (fp : Nat → Prop) : Grow w fp fp := fun _ h => .inl h

section
variable {base : Nat} {e : TypeId} {size : Nat} {v : Value} {n : Nat} {xs : List Value}
theorem own_keep (h : w.ownsRow base e size v n xs) (hf : ∀ g, v.ownBlock = some g → fp g) (hk : Kept fp w w') : w'.ownsRow base e size v n xs := by
  refine ⟨h.1, ?_⟩
  rcases h.2 with h2 | ⟨g, cap, cur, rfl, hb, hg, r⟩
  · exact .inl h2
  · exact .inr ⟨g, cap, cur, rfl, hb, hk g _ (hf g rfl) hg, r⟩
theorem own_base (h : w.ownsRow base e size v n xs) (b' : Nat) (hb : ∀ g, v.ownBlock = some g → b' ≤ g) : w.ownsRow b' e size v n xs := by
  refine ⟨h.1, ?_⟩
  rcases h.2 with h2 | ⟨g, cap, cur, rfl, _, r⟩
  · exact .inl h2
  · exact .inr ⟨g, cap, cur, rfl, hb g rfl, r⟩
theorem own_tag (h : w.ownsRow base e size v n xs) {g : Nat} (hg : v.ownBlock = some g) : ∃ cs, w.heap[g]? = some (.cells cs e (0, 0)) := by
  rcases h.2 with ⟨rfl, _⟩ | ⟨g', cap, cur, rfl, _, hgg, _⟩
  · cases hg
  · injection hg with hg
    subst hg
    exact ⟨cur, hgg⟩
end

/-- A slice that reads as a list, in a row of element type e that lies within fp (nothing is said of where, if it is empty). -/
def SlF (w : World) (fp : Nat → Prop) (e : TypeId) (A : Option Addr) (n sz : Nat) (xs : List Value) : Prop :=
  Sl w A n sz xs ∧ ∀ b off s, 0 < n * sz → A = some ⟨b, off, s⟩ → fp b ∧ ∃ cs, w.heap[b]? = some (.cells cs e (0, 0))
section
variable {e : TypeId} {A : Option Addr} {n sz : Nat} {xs : List Value}
theorem SlF.keep (h : SlF w fp e A n sz xs) (hk : ∀ b cs, fp b → w.heap[b]? = some (.cells cs e (0, 0)) → w'.heap[b]? = some (.cells cs e (0, 0))) : SlF w' fp e A n sz xs := by
  refine ⟨⟨h.1.1, fun hn => ?_⟩, fun b off s hn hA => ?_⟩
  · obtain ⟨b, off, rfl, hc⟩ := h.1.2 hn
    obtain ⟨hf, cs, hcs⟩ := h.2 b off none hn rfl
    refine ⟨b, off, rfl, fun j u hu => ?_⟩
    have h2 : w'.heap[b]? = w.heap[b]? := (hk b cs hf hcs).trans hcs.symm
    rw [World.cell?_of_block (w := w) (a := ⟨b, off + j, none⟩) h2]
    exact hc j u hu
  · obtain ⟨hf, cs, hcs⟩ := h.2 b off s hn hA
    exact ⟨hf, cs, hk b cs hf hcs⟩
theorem SlF.kept (h : SlF w fp e A n sz xs) (hk : Kept fp w w') : SlF w' fp e A n sz xs := h.keep fun b cs hb ho => hk b _ hb ho
theorem SlF.mono (h : SlF w fp e A n sz xs) (hs : ∀ i, i < w.heap.size → fp i → fp' i) : SlF w fp' e A n sz xs :=
  ⟨h.1, fun b off s hn hA => by obtain ⟨hf, cs, hcs⟩ := h.2 b off s hn hA; exact ⟨hs b (Array.getElem?_eq_some_iff.1 hcs).1 hf, cs, hcs⟩⟩
theorem SlF.nil (w : World) (fp : Nat → Prop) (e : TypeId) (A : Option Addr) (sz : Nat) : SlF w fp e A 0 sz [] := ⟨Sl.nil w A sz, fun _ _ _ h => absurd h (by simp)⟩
theorem SlF.of_own {base c : Nat} (h : w.ownsRow base e sz (.slice A n c) n xs) (hf : ∀ i, base ≤ i → i < w.heap.size → fp i) : SlF w fp e A n sz xs := by
  refine ⟨Sl.of_own h, fun b off s hn hA => ?_⟩
  subst hA
  have h1 := h.lt b rfl
  exact ⟨hf b h1.1 h1.2, own_tag h rfl⟩
end
theorem map_keep {H : Type} {P : Program} {k : TypeId} {R : Value → Option (DataW H × List MemPlace)} {b n : Nat} {D : DataW H} (h : w.ownsMap P k R b n D) (hf : fp b) (hk : Kept fp w w') : w'.ownsMap P k R b n D := by
  obtain ⟨es, clock, hb, r⟩ := h
  exact ⟨es, clock, hk b _ hf hb, r⟩
end
theorem Sl.keepB {w w' : World} {A : Option Addr} {n sz : Nat} {xs : List Value} (h : Sl w A n sz xs) (hk : ∀ b off, 0 < n * sz → A = some ⟨b, off, none⟩ → w'.heap[b]? = w.heap[b]?) : Sl w' A n sz xs :=
  ⟨h.1, fun hn => by
    obtain ⟨b, off, e, hc⟩ := h.2 hn
    refine ⟨b, off, e, fun j u hu => ?_⟩
    rw [World.cell?_of_block (w := w) (a := ⟨b, off + j, none⟩) (hk b off hn e)]
    exact hc j u hu⟩
theorem Sl.blk_lt {w : World} {A : Option Addr} {n sz : Nat} {xs : List Value} (h : Sl w A n sz xs) {b off : Nat} {s : Option Nat} (hn : 0 < n * sz) (e : A = some ⟨b, off, s⟩) : b < w.heap.size := by
  obtain ⟨b', off', e', hc⟩ := h.2 hn
  rw [e] at e'
  injection e' with e'
  injection e' with e1 e2 e3
  subst e1 e2 e3
  have hl := h.1
  have := hc 0 _ (List.getElem?_eq_getElem (by omega))
  exact World.block_lt_of_cell? w _ this
/-- A literal that was just laid. -/
theorem sl_lit (w : World) (cs : Array Value) (t : TypeId) (g m sz : Nat) (xs : List Value) (hg : g = w.heap.size) (hx : cs.toList = xs) (hl : xs.length = m * sz) : Sl (w.alloc (.cells cs t)) (some ⟨g, 0, none⟩) m sz xs := by
  subst hg hx
  refine ⟨hl, fun _ => ⟨w.heap.size, 0, rfl, fun j u hj => ?_⟩⟩
  rw [Nat.zero_add, cell_of_row _ w.heap.size j cs t (0, 0) (heap_alloc_new w _)]
  simpa using hj
/-- The bytes of a constant, behind their conversion. -/
theorem sl_const (w : World) (l : List UInt8) (cs : Array Value) (t : TypeId) (fr : Nat × Nat) (g n : Nat) (hg : g = w.heap.size) (hc : cs.toList = bsV l) (hn : n = l.length) : SlB (w.alloc (.cells cs t fr)) (some ⟨g, 0, none⟩) n l := by
  subst hg hn
  refine ⟨by rw [bsV_length]; omega, fun _ => ⟨w.heap.size, 0, rfl, fun j u hj => ?_⟩⟩
  rw [Nat.zero_add, World.cell?_alloc_mark w cs t fr j]
  rw [← hc] at hj
  simpa using hj
theorem lit_one {xs : List Value} (h : xs.all (·.oneCell') = true) : ∀ u ∈ xs, u.oneCell' = true := List.all_eq_true.1 h
end Go.Proofs.Ytcdbpimpmhfkhaa
