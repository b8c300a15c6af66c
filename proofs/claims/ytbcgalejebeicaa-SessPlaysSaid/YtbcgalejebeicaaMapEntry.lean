/-
  'a, m[k] = .., v': the map's place is found first and written behind (an entry, then a store into it), at whatever key type. No program is looked at here.
-/
import Derived.Test.YtbcgalejebeicaaFoot
import Derived.Maps.OwnSet
import Derived.WideKeyEntry
namespace Go.Proofs.Ytbcgalejebeicaa
open Go.RowKit Go.Maps Go.MapKept Go.WideShapes
open Go.ChangeMaps (setBlock modify_eq_set)
open Go.WideElems (Fit findIdx_born findIdx_arr modify_last set_self)
set_option linter.unusedVariables false

section
variable {H : Type} {P : Program} {w : World} {t k e : TypeId} {R : Value → Option (DataW H × List MemPlace)} {b n : Nat} {D : DataW H}

theorem setBlock_twice (w : World) (b : Nat) (x y : Obj) : setBlock (setBlock w b x) b y = setBlock w b y := by simp [setBlock]
theorem store_at {w2 : World} {es1 es' : Array MapEntry} {c1 st j : Nat} {val : Value} (hw2 : w2.heap[b]? = some (.map es1 c1)) (hidx : es1.findIdx? (fun e => ((e.born : Nat) : Int) == ((st : Nat) : Int)) = some j) (hmod : es1.modify j (fun e => { e with val := val }) = es') :
    (Instr.entryStore t (.map (some b)) (.int .i64 (st : Int)) val).run P w2 = .ok () (setBlock w2 b (.map es' c1)) := by
  subst hmod
  simp [Instr.entryStore, MapKept.run_getObj_map hw2, asInt, asIntOf, hidx, MapKept.run_setObj_map _ hw2, Result.andThen, setBlock]
theorem entry_keyed {es : Array MapEntry} {clock : Nat} (K : Keyed P k) (ht : P.underlying t = some (.map k e)) {z : Value} (hz : ∀ u : World, (zeroValue e).run P u = .ok z u) (hb : w.heap[b]? = some (.map es clock)) (F : Fit P k R es clock)
    {key : Value} {kl : Lit} (hkey : keyOf P k key = some kl) (val : Value) :
    ∃ (v0 : Value) (st : Nat) (es1 : Array MapEntry) (clock1 : Nat), (Instr.mapEntry t (.map (some b)) key).run P w = .ok (.tuple #[v0, .int .i64 (st : Int)]) (setBlock w b (.map es1 clock1)) ∧
      ∃ es' clock', (Instr.entryStore t (.map (some b)) (.int .i64 (st : Int)) val).run P (setBlock w b (.map es1 clock1)) = .ok () (setBlock w b (.map es' clock')) ∧
        (Instr.mapUpdate t (.map (some b)) key val).run P w = .ok () (setBlock w b (.map es' clock')) := by
  obtain ⟨s1, s2, _⟩ := F.stamped
  have put : ∀ o : Obj, (setBlock w b o).heap[b]? = some o := fun o => Go.ChangeMaps.heap_setBlock_same hb o
  rcases K.find w hkey es.toList F.keys with ⟨h1, h2⟩ | ⟨j, e0, h1, h2, h3⟩
  · refine ⟨z, clock, es.push ⟨key, z, clock⟩, clock + 1, ?_, es.push ⟨key, val, clock⟩, clock + 1, ?_, ?_⟩
    · simp [Instr.mapEntry, run_underlying ht, MapKept.run_getObj_map hb, K.check w false hkey, h1, hz, MapKept.run_setObj_map _ hb, Result.andThen, setBlock, goInt]
    · have hidx : (es.push ⟨key, z, clock⟩).findIdx? (fun e => ((e.born : Nat) : Int) == ((clock : Nat) : Int)) = some es.size := by
        rw [findIdx_arr]
        exact findIdx_born (l := (es.push ⟨key, z, clock⟩).toList) (j := es.size) (e0 := ⟨key, z, clock⟩) (by
          simp only [Array.toList_push, List.map_append, List.map_cons, List.map_nil]
          refine List.nodup_append.2 ⟨s2, by simp, fun a ha c hc e1 => ?_⟩
          simp only [List.mem_singleton] at hc
          obtain ⟨x, hx, rfl⟩ := List.mem_map.1 ha
          have := s1 x hx
          omega) (by simp)
      have hmod : (es.push ⟨key, z, clock⟩).modify es.size (fun e => { e with val := val }) = es.push ⟨key, val, clock⟩ := by
        apply Array.ext'
        rw [Array.toList_modify, Array.toList_push, Array.toList_push, ← Array.length_toList, modify_last]
      rw [store_at (put _) hidx hmod, setBlock_twice]
    · simp [Instr.mapUpdate, run_underlying ht, MapKept.run_getObj_map hb, K.check w false hkey, h1, MapKept.run_setObj_map _ hb, Result.andThen, setBlock]
  · have hj : es[j]? = some e0 := by simpa using h2
    have hsame : es.modify j (fun e => { e with key := key }) = es := by
      apply Array.ext'
      rw [Array.toList_modify, modify_eq_set _ _ _ _ h2, show ({ e0 with key := key } : MapEntry) = e0 from by rw [← h3]]
      exact set_self _ _ _ h2
    refine ⟨e0.val, e0.born, es, clock, ?_, es.modify j (fun e' => { e' with key := key, val := val }), clock, ?_, ?_⟩
    · simp [Instr.mapEntry, run_underlying ht, MapKept.run_getObj_map hb, K.check w false hkey, h1, hj, h3, K.stays w hkey, hsame, MapKept.run_setObj_map _ hb, Result.andThen, setBlock, goInt]
    · have hidx : es.findIdx? (fun e => ((e.born : Nat) : Int) == ((e0.born : Nat) : Int)) = some j := by
        rw [findIdx_arr]
        exact findIdx_born s2 h2
      have hmod : es.modify j (fun e => { e with val := val }) = es.modify j (fun e' => { e' with key := key, val := val }) := by
        apply Array.ext'
        rw [Array.toList_modify, Array.toList_modify, modify_eq_set _ _ _ _ h2, modify_eq_set _ _ _ _ h2, ← h3]
      rw [store_at (put _) hidx hmod, setBlock_twice]
    · simp [Instr.mapUpdate, run_underlying ht, MapKept.run_getObj_map hb, K.check w false hkey, h1, hj, h3, K.stays w hkey, MapKept.run_setObj_map _ hb, Result.andThen, setBlock]
/-- The two steps, as they run, and what they leave. -/
theorem entry_own (h : w.ownsMap P k R b n D) (K : Keyed P k) (ht : P.underlying t = some (.map k e)) {z : Value} (hz : ∀ u : World, (zeroValue e).run P u = .ok z u) (hn : n < maxLen) {key val : Value} {kl : Lit} {d : DataW H} {ps : List MemPlace}
    (hkey : keyOf P k key = some kl) (hv : R val = some (d, ps)) :
    ∃ (v0 : Value) (st : Nat) (w1 w2 : World), (Instr.mapEntry t (.map (some b)) key).run P w = .ok (.tuple #[v0, .int .i64 (st : Int)]) w1 ∧ (Instr.entryStore t (.map (some b)) (.int .i64 (st : Int)) val).run P w1 = .ok () w2 ∧
      w2.ownsMap P k R b (n + 1) (D.put kl d) ∧ w.grownBy w1 (some b) ∧ w.grownBy w2 (some b) := by
  have h0 := h
  obtain ⟨es, clock, hb, F, hs, _⟩ := h
  obtain ⟨v0, st, es1, c1, r1, es', c', r2, r3⟩ := entry_keyed K ht hz hb F hkey val
  obtain ⟨w2, r4, r5, r6⟩ := h0.store K ht hn hkey hv
  rw [r3] at r4
  injection r4 with _ r4
  subst r4
  exact ⟨v0, st, _, _, r1, r2, r5, (show w.mapTurned (setBlock w b (.map es1 c1)) b from ⟨es, clock, es1, c1, hb, rfl⟩).grown, r6.grown⟩
end
end Go.Proofs.Ytbcgalejebeicaa
