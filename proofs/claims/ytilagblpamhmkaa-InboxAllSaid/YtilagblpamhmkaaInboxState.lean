/-
  Far writes that wait: what they say, and what they lie in. 
-/
import Derived.Test.YtilagblpamhmkaaCodeWholeRec
import Derived.Test.YtilagblpamhmkaaCodePutRecE
import Derived.Test.YtilagblpamhmkaaMV
import Derived.Test.YtilagblpamhmkaaMC
namespace Go.Proofs.Ytilagblpamhmkaa
open Go.RowKit
set_option linter.unusedVariables false

/-! ### In plain Lean -/
structure Fa where
  src : Int
  seq : Int
  rc : Rc
  route : List Int
def Fa.ver (f : Fa) : Vr := f.rc.vers.headD ⟨0, 0, [], false, ⟨#[]⟩⟩
/-- May it be done? -/
def mayB (v : List Int) (f : Fa) : Bool := decide ((nextOf v f.ver.s).2.2 = 0) && (decide ((nextOf v f.ver.s).1 = f.ver.s ∧ (nextOf v f.ver.s).2.1 = f.ver.n) && holdsB v f.ver.past)
def covB (v : List Int) (f : Fa) : Bool := coversB v f.ver.s f.ver.n
def sameDot (f x : Fa) : Bool := decide (x.ver.s = f.ver.s ∧ x.ver.n = f.ver.n)
noncomputable def rightF (f : Fa) : Bool := rightR f.rc && decide (f.rc.vers.length = 1)
/-- What Take answers. -/
noncomputable def takeA (room : Int) (l : List Fa) (f : Fa) (v : List Int) : Int :=
  if rightF f = false then 0 else if covB v f = true then 1 else if l.any (sameDot f) = true then 3 else if room ≤ (l.length : Int) ∧ mayB v f = false then 4 else 2
noncomputable def takeI (room : Int) (l : List Fa) (f : Fa) (v : List Int) : List Fa := if takeA room l f v = 2 then l ++ [f] else l
def readyI (l : List Fa) (v : List Int) : Option Nat := l.findIdx? (mayB v)
/-! ### In memory -/
abbrev RFa := Fa × (Option Addr × Nat × Nat) × (Option Addr × Nat × Nat)
def fV1 (y : RFa) : List Value := [.int .i64 y.1.src, .int .i64 y.1.seq, .string y.1.rc.key, .slice y.2.1.1 y.2.1.2.1 y.2.1.2.2, .slice y.2.2.1 y.2.2.2.1 y.2.2.2.2]
theorem fV1_len (y : RFa) : (fV1 y).length = 5 := rfl
theorem fV1_one (y : RFa) : ∀ u ∈ fV1 y, u.oneCell' = true := by
  intro u hu
  simp only [fV1, List.mem_cons, List.mem_nil_iff, or_false] at hu
  rcases hu with rfl | rfl | rfl | rfl | rfl <;> rfl
/-- Versions in blocks of fp. -/
def SlVF (w : World) (fp : Nat → Prop) (A : Option Addr) (n : Nat) (vs : List Vr) : Prop :=
  ∃ rows : List RV, rows.map (·.1) = vs ∧ SlF w fp 42 A n 5 (rows.flatMap vV1) ∧ ∀ z ∈ rows, SlF w fp 53 z.2.1 z.2.2.1 3 (spV z.1.past) ∧ VFix z.1 z.2.2.1 z.2.2.2
/-- What a write of the list has in memory. -/
structure FaD (w : World) (fp : Nat → Prop) (y : RFa) : Prop where
  vs : SlVF w fp y.2.1.1 y.2.1.2.1 y.1.rc.vers
  vc : y.2.1.2.1 ≤ y.2.1.2.2
  vl : y.2.1.2.1 * 64 ≤ 140737488351232
  key : y.1.rc.key.size ≤ 140737488351232
  ro : SlF w fp 3 y.2.2.1 y.2.2.2.1 1 (y.1.route.map (Value.int .i64))
  rc : y.2.2.2.1 ≤ y.2.2.2.2
  rl : y.2.2.2.1 * 8 ≤ 140737488351232
  right : rightF y.1 = true
section
variable {w w' : World} {fp fp' : Nat → Prop}
theorem SlVF.keep {A : Option Addr} {n : Nat} {vs : List Vr} (h : SlVF w fp A n vs) (hk : ∀ b cs t, t = 42 ∨ t = 53 → fp b → w.heap[b]? = some (.cells cs t (0, 0)) → w'.heap[b]? = some (.cells cs t (0, 0))) : SlVF w' fp A n vs := by
  obtain ⟨rows, h1, h2, h3⟩ := h
  exact ⟨rows, h1, h2.keep fun b cs hb ho => hk b cs _ (.inl rfl) hb ho, fun z hz => ⟨(h3 z hz).1.keep fun b cs hb ho => hk b cs _ (.inr rfl) hb ho, (h3 z hz).2⟩⟩
theorem SlVF.mono {A : Option Addr} {n : Nat} {vs : List Vr} (h : SlVF w fp A n vs) (hs : ∀ i, i < w.heap.size → fp i → fp' i) : SlVF w fp' A n vs := by
  obtain ⟨rows, h1, h2, h3⟩ := h
  exact ⟨rows, h1, h2.mono hs, fun z hz => ⟨(h3 z hz).1.mono hs, (h3 z hz).2⟩⟩
theorem SlVF.slv {A : Option Addr} {n : Nat} {vs : List Vr} (h : SlVF w fp A n vs) : SlV w A n vs := by
  obtain ⟨rows, h1, h2, h3⟩ := h
  exact ⟨rows, h1, h2.1, fun y hy => (h3 y hy).2.row (h3 y hy).1.1⟩
theorem SlVF.of_own {B n c : Nat} {A : Option Addr} {rows : List RV} (h : OwnV w B (.slice A n c) n rows) (hf : ∀ i, B ≤ i → i < w.heap.size → fp i) : SlVF w fp A n (rows.map (·.1)) :=
  ⟨rows, rfl, SlF.of_own h.1 hf, fun y hy => ⟨SlF.of_own (h.2 y hy).1 hf, (h.2 y hy).2⟩⟩
/-- What keeps versions, spans and numbers. -/
def KeepD (fp : Nat → Prop) (w w' : World) : Prop := ∀ b cs t, t = 42 ∨ t = 53 ∨ t = 3 → fp b → w.heap[b]? = some (.cells cs t (0, 0)) → w'.heap[b]? = some (.cells cs t (0, 0))
theorem KeepD.of (hk : Kept fp w w') : KeepD fp w w' := fun b _ _ _ hb ho => hk b _ hb ho
theorem FaD.keep {y : RFa} (h : FaD w fp y) (hk : KeepD fp w w') : FaD w' fp y :=
  ⟨h.vs.keep fun b cs t ht hb ho => hk b cs t (ht.elim .inl (fun e => .inr (.inl e))) hb ho, h.vc, h.vl, h.key, h.ro.keep fun b cs hb ho => hk b cs _ (.inr (.inr rfl)) hb ho, h.rc, h.rl, h.right⟩
theorem FaD.mono {y : RFa} (h : FaD w fp y) (hs : ∀ i, i < w.heap.size → fp i → fp' i) : FaD w fp' y := ⟨h.vs.mono hs, h.vc, h.vl, h.key, h.ro.mono hs, h.rc, h.rl, h.right⟩
theorem FaD.rrow {y : RFa} (h : FaD w fp y) : RRow w y.1.rc y.2.1.1 y.2.1.2.1 y.2.1.2.2 := ⟨h.vs.slv, h.vc, h.vl, h.key⟩
/-- The inbox. -/
def IParts (w : World) (fp : Nat → Prop) (p : Nat) (room : Int) (l : List Fa) (lv : Value) (rows : List RFa) : Prop :=
  w.heap[p]? = some (.cells #[.int .i64 room, lv] 81 (0, 0)) ∧ w.ownsRow 0 35 5 lv l.length (rows.flatMap fV1) ∧ (∀ g, lv.ownBlock = some g → fp g) ∧ rows.map (·.1) = l ∧ ∀ y : RFa, y ∈ rows → FaD w fp y
structure InG (w : World) (fp : Nat → Prop) (p : Nat) (room : Int) (l : List Fa) : Prop where
  inp : fp p
  ex : ∃ (lv : Value) (rows : List RFa), IParts w fp p room l lv rows
  lt : ∀ b, fp b → b < w.heap.size
theorem IParts.kept {p : Nat} {room : Int} {l : List Fa} {lv : Value} {rows : List RFa} (h : IParts w fp p room l lv rows) (hp : fp p) (hk : Kept fp w w') : IParts w' fp p room l lv rows := by
  obtain ⟨h1, h2, h3, h4, h5⟩ := h
  exact ⟨hk _ _ hp h1, own_keep h2 h3 hk, h3, h4, fun y hy => (h5 y hy).keep (KeepD.of hk)⟩
theorem InG.kept {p : Nat} {room : Int} {l : List Fa} (h : InG w fp p room l) (hk : Kept fp w w') (hsz : w.heap.size ≤ w'.heap.size) : InG w' fp p room l := by
  obtain ⟨lv, rows, hp⟩ := h.ex
  exact ⟨h.inp, ⟨lv, rows, hp.kept h.inp hk⟩, fun b hb => Nat.lt_of_lt_of_le (h.lt b hb) hsz⟩
theorem InG.below {p : Nat} {room : Int} {l : List Fa} (h : InG w fp p room l) (hb : Below w.heap.size w w') : InG w' fp p room l := h.kept (Kept.below hb) hb.size
/-- The cells of the write of a number. -/
theorem IParts.at_ {p : Nat} {room : Int} {l : List Fa} {lv : Value} {rows : List RFa} (hp : IParts w fp p room l lv rows) {k : Nat} {y : RFa} (hy : rows[k]? = some y) :
    ∃ g cc, lv = .slice (some ⟨g, 0, none⟩) l.length cc ∧ w.cell? ⟨p, 1, none⟩ = some (.slice (some ⟨g, 0, none⟩) l.length cc) ∧ (∀ r u, r < 5 → (fV1 y)[r]? = some u → w.cell? ⟨g, k * 5 + r, none⟩ = some u) ∧ k < l.length ∧ g < w.heap.size := by
  obtain ⟨h1, h2, h3, h4, h5⟩ := hp
  have hk : k < l.length := by rw [← h4, List.length_map]; exact (List.getElem?_eq_some_iff.1 hy).1
  obtain ⟨g, cc, hv, _, _⟩ := h2.form (by omega)
  subst hv
  exact ⟨g, cc, rfl, (cell_of_row w p 1 _ _ (0, 0) h1).trans rfl, fun r u hr hu => (h2.cellAt (k * 5 + r) (by omega)).trans ((flat_at fV1_len rows k r y hy hr).trans hu), hk, (h2.lt g rfl).2⟩
/-- Another list is laid. -/
theorem InG.relist {p : Nat} {room : Int} {l l' : List Fa} (h : InG w fp p room l) {lv v3 : Value} {rows rows' : List RFa} {w3 : World} (hp : IParts w fp p room l lv rows) (hF : Fr (fun b => lv.ownBlock = some b) w w3)
    (own3 : w3.ownsRow 0 35 5 v3 l'.length (rows'.flatMap fV1)) (hv3 : ∀ g, v3.ownBlock = some g → fp g ∨ w.heap.size ≤ g) (hm : rows'.map (·.1) = l') (hd : ∀ y : RFa, y ∈ rows' → FaD w3 (fun b => fp b ∨ w.heap.size ≤ b ∧ b < w3.heap.size) y ∨ FaD w fp y) :
    InG (w3.setCell ⟨p, 1, none⟩ v3) (fun b => fp b ∨ w.heap.size ≤ b ∧ b < w3.heap.size) p room l' ∧ w3.cell? ⟨p, 1, none⟩ = some lv ∧ (∀ j, w3.frozen? ⟨p, j, none⟩ = false) ∧ Fr fp w (w3.setCell ⟨p, 1, none⟩ v3) := by
  obtain ⟨h1, h2, h3, h4, h5⟩ := hp
  have hrowt : ∀ b, lv.ownBlock = some b → ∃ cs, w.heap[b]? = some (.cells cs 35 (0, 0)) := fun b hb => own_tag h2 hb
  have tag_ne' : ∀ {W : World} {a b : Nat} {ca cb : Array Value} {ta tb : TypeId}, W.heap[a]? = some (.cells ca ta (0, 0)) → W.heap[b]? = some (.cells cb tb (0, 0)) → ta ≠ tb → a ≠ b := by
    intro W a b ca cb ta tb ha hb ht e
    subst e
    rw [ha] at hb
    injection hb with hb
    injection hb with _ h2
    exact ht h2
  have hk : Kept (fun b => ¬ lv.ownBlock = some b) w w3 := hF.kept fun i hi hi' => hi hi'
  have hq : ¬ lv.ownBlock = some p := fun e => by obtain ⟨cs, hcs⟩ := hrowt p e; exact tag_ne' hcs h1 (by decide) rfl
  have htop := hk _ _ hq h1
  have hkq : Kept (fun b => b ≠ p) w3 (w3.setCell ⟨p, 1, none⟩ v3) := Kept.set _ (fun hh => hh rfl)
  have tag3 : ∀ {b : Nat} {cs : Array Value} {t : TypeId}, t ≠ 81 → w3.heap[b]? = some (.cells cs t (0, 0)) → (w3.setCell ⟨p, 1, none⟩ v3).heap[b]? = some (.cells cs t (0, 0)) := fun ht hb => hkq _ _ (tag_ne' hb htop ht) hb
  have tagk : ∀ {b : Nat} {cs : Array Value} {t : TypeId}, t ≠ 35 → w.heap[b]? = some (.cells cs t (0, 0)) → w3.heap[b]? = some (.cells cs t (0, 0)) := fun ht hb => hk _ _ (fun e => by obtain ⟨cs', hcs'⟩ := hrowt _ e; exact tag_ne' hcs' hb (fun e2 => ht e2.symm) rfl) hb
  have dt : ∀ {t : TypeId}, t = 42 ∨ t = 53 ∨ t = 3 → t ≠ 81 ∧ t ≠ 35 := by
    rintro t (rfl | rfl | rfl) <;> exact ⟨by decide, by decide⟩
  have hfr : Fr fp w (w3.setCell ⟨p, 1, none⟩ v3) := (hF.mono (fun i hi => .inl (h3 i hi))).trans (Fr.set w3 ⟨p, 1, none⟩ v3) (fun i hi => by subst hi; exact .inl h.inp)
  refine ⟨⟨.inl h.inp, ⟨v3, rows', ?_, ?_, ?_, hm, ?_⟩, ?_⟩, (cell_of_row w3 p 1 _ _ (0, 0) htop).trans rfl, fun j => frozen_of_row w3 p j _ _ htop, hfr⟩
  · rw [heap_setCell_same w3 p 1 _ _ v3 htop]; rfl
  · refine own_keep own3 (fp := fun b => b ≠ p) (fun g hg => ?_) hkq
    obtain ⟨cs, hcs⟩ := own_tag own3 hg
    exact tag_ne' hcs htop (by decide)
  · intro g hg
    exact (hv3 g hg).elim .inl fun hh => .inr ⟨hh, (own3.lt g hg).2⟩
  · intro y hy
    rcases hd y hy with t | t
    · exact t.keep fun b cs t' ht _ ho => tag3 (dt ht).1 ho
    · exact (t.keep fun b cs t' ht _ ho => tag3 (dt ht).1 (tagk (dt ht).2 ho)).mono (fun b _ hb => .inl hb)
  · intro b hb
    rcases hb with hb | hb
    · have := h.lt b hb
      have := hF.size
      simp
      omega
    · simpa using hb.2
end
end Go.Proofs.Ytilagblpamhmkaa
