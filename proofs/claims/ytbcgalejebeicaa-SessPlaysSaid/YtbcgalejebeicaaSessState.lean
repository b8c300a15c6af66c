/-
  The sessions' state in memory: the program's.
-/
import Derived.Test.YtbcgalejebeicaaSessMem
import Derived.Test.YtbcgalejebeicaaFoot
namespace Go.Proofs.Ytbcgalejebeicaa
open Go.RowKit
set_option linter.unusedVariables false

def tokMax : Nat := 140737488351232
theorem tokMax_eq : tokMax = 140737488351232 := rfl

/-- Where the sessions lie: their block, the map's, the list, the sessions' blocks. -/
structure SGeo where
  p : Nat
  mb : Nat
  lv : Value
  gs : List Nat
def ptrsV (gs : List Nat) : List Value := gs.map fun g => .pointer (some ⟨g, 0, none⟩)
theorem ptrsV_length (gs : List Nat) : (ptrsV gs).length = gs.length := by simp [ptrsV]
/-- A session's block. -/
def SesAt (w : World) (fp : Nat → Prop) (g : Nat) (x : Ses) : Prop :=
  ∃ A n c, fp g ∧ w.heap[g]? = some (.cells #[.int .i64 x.site, .slice A n c, .int .i64 x.op] 67 (0, 0)) ∧ SlF w fp 5 A n 1 (bsV x.tok) ∧ x.tok.length ≤ tokMax ∧ (Lit.int .i64 x.op).wf = true ∧ n ≤ c
/-- The sessions as the program has them: at most m asks were ever begun. -/
structure SessG (w : World) (fp : Nat → Prop) (G : SGeo) (sites : Int) (l : List Ses) (m : Nat) : Prop where
  inp : fp G.p
  inm : fp G.mb
  top : w.heap[G.p]? = some (.cells #[.int .i64 sites, G.lv, .map (some G.mb)] 63 (0, 0))
  row : w.ownsRow 0 65 1 G.lv G.gs.length (ptrsV G.gs)
  inl : ∀ g, G.lv.ownBlock = some g → fp g
  map : ∃ D, w.ownsMap Try.prog 2 (plainElem Try.prog 3) G.mb m D ∧ AskMap D l
  nod : G.gs.Nodup
  len : G.gs.length = l.length
  ses : ∀ (i g : Nat) (x : Ses), G.gs[i]? = some g → l[i]? = some x → SesAt w fp g x
  asks : Asks l
  lt : ∀ b, fp b → b < w.heap.size

theorem tag_ne {w : World} {a b : Nat} {ca cb : Array Value} {ta tb : TypeId} {ra rb : Nat × Nat} (ha : w.heap[a]? = some (.cells ca ta ra)) (hb : w.heap[b]? = some (.cells cb tb rb)) (ht : ta ≠ tb) : a ≠ b := by
  rintro rfl
  rw [ha] at hb
  injection hb with hb
  injection hb with _ h2
  exact ht h2
theorem map_ne {H : Type} {P : Program} {k : TypeId} {R : Value → Option (DataW H × List MemPlace)} {n : Nat} {D : DataW H} {w : World} {a b : Nat} {ca : Array Value} {ta : TypeId} {ra : Nat × Nat} (ha : w.heap[a]? = some (.cells ca ta ra)) (hb : w.ownsMap P k R b n D) : a ≠ b := by
  rintro rfl
  obtain ⟨es, clock, hb, _⟩ := hb
  rw [ha] at hb
  injection hb with hb
  cases hb
theorem heap_lt {w : World} {a : Nat} {o : Obj} (h : w.heap[a]? = some o) : a < w.heap.size := (Array.getElem?_eq_some_iff.1 h).1

section
variable {w w' : World} {fp fp' : Nat → Prop} {G : SGeo} {g m : Nat} {sites : Int} {l : List Ses} {x : Ses}
theorem SesAt.kept (h : SesAt w fp g x) (hk : Kept fp w w') : SesAt w' fp g x := by
  obtain ⟨A, n, c, h1, h2, h3, h4⟩ := h
  exact ⟨A, n, c, h1, hk _ _ h1 h2, h3.kept hk, h4⟩
theorem SesAt.mono (h : SesAt w fp g x) (hs : ∀ i, i < w.heap.size → fp i → fp' i) : SesAt w fp' g x := by
  obtain ⟨A, n, c, h1, h2, h3, h4⟩ := h
  exact ⟨A, n, c, hs _ (heap_lt h2) h1, h2, h3.mono hs, h4⟩
theorem SessG.kept (h : SessG w fp G sites l m) (hk : Kept fp w w') (hsz : w.heap.size ≤ w'.heap.size) : SessG w' fp G sites l m := by
  obtain ⟨D, hD, hA⟩ := h.map
  exact ⟨h.inp, h.inm, hk _ _ h.inp h.top, own_keep h.row h.inl hk, h.inl, ⟨D, map_keep hD h.inm hk, hA⟩, h.nod, h.len, fun i g x hg hx => (h.ses i g x hg hx).kept hk, h.asks, fun b hb => Nat.lt_of_lt_of_le (h.lt b hb) hsz⟩
theorem SessG.below (h : SessG w fp G sites l m) (hb : Below w.heap.size w w') : SessG w' fp G sites l m := h.kept (Kept.below hb) hb.size
theorem SessG.at_ (h : SessG w fp G sites l m) {i : Nat} {x : Ses} (hx : l[i]? = some x) : ∃ g, G.gs[i]? = some g ∧ SesAt w fp g x := by
  have hi := (List.getElem?_eq_some_iff.1 hx).1
  have hg : G.gs[i]? = some (G.gs[i]'(by rw [h.len]; exact hi)) := List.getElem?_eq_getElem _
  exact ⟨_, hg, h.ses i _ x hg hx⟩
theorem nodup_ne {gs : List Nat} (hn : gs.Nodup) {i j a b : Nat} (hi : gs[i]? = some a) (hj : gs[j]? = some b) (hij : i ≠ j) : a ≠ b := by
  rintro rfl
  obtain ⟨h1, e1⟩ := List.getElem?_eq_some_iff.1 hi
  obtain ⟨h2, e2⟩ := List.getElem?_eq_some_iff.1 hj
  exact hij ((List.getElem_inj hn).1 (e1.trans e2.symm))
/-- One session has been turned (and, it may be, the map). -/
theorem SessG.turn (h : SessG w fp G sites l m) {i : Nat} {x y : Ses} {m' : Nat} {A : Option Addr} {n c : Nat} (hg : G.gs[i]? = some g) (hx : l[i]? = some x)
    (hgc : w'.heap[g]? = some (.cells #[.int .i64 y.site, .slice A n c, .int .i64 y.op] 67 (0, 0))) (htok : SlF w' fp' 5 A n 1 (bsV y.tok)) (hlen : y.tok.length ≤ tokMax) (hwf : (Lit.int .i64 y.op).wf = true) (hnc : n ≤ c)
    (hk : Kept (fun b => fp b ∧ b ≠ g ∧ b ≠ G.mb) w w') (hm : ∃ D, w'.ownsMap Try.prog 2 (plainElem Try.prog 3) G.mb m' D ∧ AskMap D (l.set i y)) (ha : Asks (l.set i y))
    (hs : ∀ b, fp b → fp' b) (hlt : ∀ b, fp' b → b < w'.heap.size) (hsz : w.heap.size ≤ w'.heap.size) : SessG w' fp' G sites (l.set i y) m' := by
  obtain ⟨D0, hD0, _⟩ := h.map
  obtain ⟨A0, n0, c0, hg1, hg2, _⟩ := h.ses i g x hg hx
  have hk2 : ∀ b o, fp b → b ≠ g → b ≠ G.mb → w.heap[b]? = some o → w'.heap[b]? = some o := fun b o h1 h2 h3 h4 => hk b o ⟨h1, h2, h3⟩ h4
  refine ⟨hs _ h.inp, hs _ h.inm, hk2 _ _ h.inp (tag_ne h.top hg2 (by decide)) (map_ne h.top hD0) h.top, ?_, fun b hb => hs _ (h.inl b hb), hm, h.nod, by rw [List.length_set]; exact h.len, ?_, ha, hlt⟩
  · refine own_keep (fp := fun b => fp b ∧ b ≠ g ∧ b ≠ G.mb) h.row (fun b hb => ?_) hk
    obtain ⟨cs, hcs⟩ := own_tag h.row hb
    exact ⟨h.inl b hb, tag_ne hcs hg2 (by decide), map_ne hcs hD0⟩
  · intro j g' z hj hz
    by_cases hij : j = i
    · subst hij
      rw [hg] at hj
      injection hj with hj
      subst hj
      have hjl := (List.getElem?_eq_some_iff.1 hx).1
      rw [List.getElem?_set_self hjl] at hz
      injection hz with hz
      subst hz
      exact ⟨A, n, c, hs _ hg1, hgc, htok, hlen, hwf, hnc⟩
    · rw [List.getElem?_set_ne (fun e => hij e.symm)] at hz
      obtain ⟨A1, n1, c1, b1, b2, b3, b4⟩ := h.ses j g' z hj hz
      refine ⟨A1, n1, c1, hs _ b1, hk2 _ _ b1 (nodup_ne h.nod hj hg hij) (map_ne b2 hD0) b2, ?_, b4⟩
      refine (b3.keep fun b cs hb ho => hk2 b _ hb (tag_ne ho hg2 (by decide)) (map_ne ho hD0) ho).mono (fun b _ hb => hs b hb)
end

/-- What a method leaves: the new state lies where the old one lay, or in new blocks, and nothing else has turned. -/
def SessTo (w : World) (fp : Nat → Prop) (G : SGeo) (sites : Int) (l : List Ses) (m : Nat) (w' : World) : Prop :=
  ∃ fp', SessG w' fp' G sites l m ∧ Fr fp w w' ∧ Grow w fp fp'
end Go.Proofs.Ytbcgalejebeicaa
