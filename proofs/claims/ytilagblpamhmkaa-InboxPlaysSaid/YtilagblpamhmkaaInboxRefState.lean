/-
  The document's inbox in memory; a write's dot (printed by tools/inboxref.py).
-/
import Derived.Test.YtilagblpamhmkaaInboxRows
namespace Go.Proofs.Ytilagblpamhmkaa
open Go.RowKit
set_option linter.unusedVariables false

section
variable {w w' : World} {fp fp' : Nat → Prop}
/-- The inbox. -/
def RIParts (w : World) (fp : Nat → Prop) (p : Nat) (room : Int) (l : List Fa) (lv : Value) (rows : List RFa) : Prop :=
  w.heap[p]? = some (.cells #[.int .i64 room, lv] 66 (0, 0)) ∧ w.ownsRow 0 61 5 lv l.length (rows.flatMap fV1) ∧ (∀ g, lv.ownBlock = some g → fp g) ∧ rows.map (·.1) = l ∧ ∀ y : RFa, y ∈ rows → FaD w fp y
structure RInG (w : World) (fp : Nat → Prop) (p : Nat) (room : Int) (l : List Fa) : Prop where
  inp : fp p
  ex : ∃ (lv : Value) (rows : List RFa), RIParts w fp p room l lv rows
  lt : ∀ b, fp b → b < w.heap.size
theorem RIParts.kept {p : Nat} {room : Int} {l : List Fa} {lv : Value} {rows : List RFa} (h : RIParts w fp p room l lv rows) (hp : fp p) (hk : Kept fp w w') : RIParts w' fp p room l lv rows := by
  obtain ⟨h1, h2, h3, h4, h5⟩ := h
  exact ⟨hk _ _ hp h1, own_keep h2 h3 hk, h3, h4, fun y hy => (h5 y hy).keep (KeepD.of hk)⟩
theorem RInG.kept {p : Nat} {room : Int} {l : List Fa} (h : RInG w fp p room l) (hk : Kept fp w w') (hsz : w.heap.size ≤ w'.heap.size) : RInG w' fp p room l := by
  obtain ⟨lv, rows, hp⟩ := h.ex
  exact ⟨h.inp, ⟨lv, rows, hp.kept h.inp hk⟩, fun b hb => Nat.lt_of_lt_of_le (h.lt b hb) hsz⟩
theorem RInG.below {p : Nat} {room : Int} {l : List Fa} (h : RInG w fp p room l) (hb : Below w.heap.size w w') : RInG w' fp p room l := h.kept (Kept.below hb) hb.size
/-- The cells of the write of a number. -/
theorem RIParts.at_ {p : Nat} {room : Int} {l : List Fa} {lv : Value} {rows : List RFa} (hp : RIParts w fp p room l lv rows) {k : Nat} {y : RFa} (hy : rows[k]? = some y) :
    ∃ g cc, lv = .slice (some ⟨g, 0, none⟩) l.length cc ∧ w.cell? ⟨p, 1, none⟩ = some (.slice (some ⟨g, 0, none⟩) l.length cc) ∧ (∀ r u, r < 5 → (fV1 y)[r]? = some u → w.cell? ⟨g, k * 5 + r, none⟩ = some u) ∧ k < l.length ∧ g < w.heap.size := by
  obtain ⟨h1, h2, h3, h4, h5⟩ := hp
  have hk : k < l.length := by rw [← h4, List.length_map]; exact (List.getElem?_eq_some_iff.1 hy).1
  obtain ⟨g, cc, hv, _, _⟩ := h2.form (by omega)
  subst hv
  exact ⟨g, cc, rfl, (cell_of_row w p 1 _ _ (0, 0) h1).trans rfl, fun r u hr hu => (h2.cellAt (k * 5 + r) (by omega)).trans ((flat_at fV1_len rows k r y hy hr).trans hu), hk, (h2.lt g rfl).2⟩
/-- Another list is laid. -/
theorem RInG.relist {p : Nat} {room : Int} {l l' : List Fa} (h : RInG w fp p room l) {lv v3 : Value} {rows rows' : List RFa} {w3 : World} (hp : RIParts w fp p room l lv rows) (hF : Fr (fun b => lv.ownBlock = some b) w w3)
    (own3 : w3.ownsRow 0 61 5 v3 l'.length (rows'.flatMap fV1)) (hv3 : ∀ g, v3.ownBlock = some g → fp g ∨ w.heap.size ≤ g) (hm : rows'.map (·.1) = l') (hd : ∀ y : RFa, y ∈ rows' → FaD w3 (fun b => fp b ∨ w.heap.size ≤ b ∧ b < w3.heap.size) y ∨ FaD w fp y) :
    RInG (w3.setCell ⟨p, 1, none⟩ v3) (fun b => fp b ∨ w.heap.size ≤ b ∧ b < w3.heap.size) p room l' ∧ w3.cell? ⟨p, 1, none⟩ = some lv ∧ (∀ j, w3.frozen? ⟨p, j, none⟩ = false) ∧ Fr fp w (w3.setCell ⟨p, 1, none⟩ v3) := by
  obtain ⟨h1, h2, h3, h4, h5⟩ := hp
  have hrowt : ∀ b, lv.ownBlock = some b → ∃ cs, w.heap[b]? = some (.cells cs 61 (0, 0)) := fun b hb => own_tag h2 hb
  have tag_ne' : ∀ {W : World} {a b : Nat} {ca cb : Array Value} {ta tb : TypeId}, W.heap[a]? = some (.cells ca ta (0, 0)) → W.heap[b]? = some (.cells cb tb (0, 0)) → ta ≠ tb → a ≠ b := by
    intro W a b ca cb ta tb ha hb ht e
    subst e
    rw [ha] at hb
    injection hb with hb
    injection hb with _ h2
    exact ht h2
  have hk : Kept (fun b => ¬ lv.ownBlock = some b) w w3 := hF.kept fun i hi hi' => hi hi'
  have hq : ¬ lv.ownBlock = some p := fun e => by obtain ⟨cs, hcs⟩ := hrowt p e; exact tag_ne' hcs h1 (by decide) rfl
  have htop := hk _ _ hq h1
  have hkq : Kept (fun b => b ≠ p) w3 (w3.setCell ⟨p, 1, none⟩ v3) := Kept.set _ (fun hh => hh rfl)
  have tag3 : ∀ {b : Nat} {cs : Array Value} {t : TypeId}, t ≠ 66 → w3.heap[b]? = some (.cells cs t (0, 0)) → (w3.setCell ⟨p, 1, none⟩ v3).heap[b]? = some (.cells cs t (0, 0)) := fun ht hb => hkq _ _ (tag_ne' hb htop ht) hb
  have tagk : ∀ {b : Nat} {cs : Array Value} {t : TypeId}, t ≠ 61 → w.heap[b]? = some (.cells cs t (0, 0)) → w3.heap[b]? = some (.cells cs t (0, 0)) := fun ht hb => hk _ _ (fun e => by obtain ⟨cs', hcs'⟩ := hrowt _ e; exact tag_ne' hcs' hb (fun e2 => ht e2.symm) rfl) hb
  have dt : ∀ {t : TypeId}, t = 42 ∨ t = 53 ∨ t = 3 → t ≠ 66 ∧ t ≠ 61 := by
    rintro t (rfl | rfl | rfl) <;> exact ⟨by decide, by decide⟩
  have hfr : Fr fp w (w3.setCell ⟨p, 1, none⟩ v3) := (hF.mono (fun i hi => .inl (h3 i hi))).trans (Fr.set w3 ⟨p, 1, none⟩ v3) (fun i hi => by subst hi; exact .inl h.inp)
  refine ⟨⟨.inl h.inp, ⟨v3, rows', ?_, ?_, ?_, hm, ?_⟩, ?_⟩, (cell_of_row w3 p 1 _ _ (0, 0) htop).trans rfl, fun j => frozen_of_row w3 p j _ _ htop, hfr⟩
  · rw [heap_setCell_same w3 p 1 _ _ v3 htop]; rfl
  · refine own_keep own3 (fp := fun b => b ≠ p) (fun g hg => ?_) hkq
    obtain ⟨cs, hcs⟩ := own_tag own3 hg
    exact tag_ne' hcs htop (by decide)
  · intro g hg
    exact (hv3 g hg).elim .inl fun hh => .inr ⟨hh, (own3.lt g hg).2⟩
  · intro y hy
    rcases hd y hy with t | t
    · exact t.keep fun b cs t' ht _ ho => tag3 (dt ht).1 ho
    · exact (t.keep fun b cs t' ht _ ho => tag3 (dt ht).1 (tagk (dt ht).2 ho)).mono (fun b _ hb => .inl hb)
  · intro b hb
    rcases hb with hb | hb
    · have := h.lt b hb
      have := hF.size
      simp
      omega
    · simpa using hb.2
end
/-- What a call leaves of an inbox. -/
def RITo (w : World) (fp : Nat → Prop) (p : Nat) (room : Int) (l : List Fa) (v : Value) (e : Ending) (w' : World) : Prop :=
  e = .returned v ∧ ∃ fp', RInG w' fp' p room l ∧ Fr fp w w' ∧ Grow w fp fp'
section
variable {w w' : World} {fp fp' : Nat → Prop} {p : Nat} {room : Int} {l : List Fa}
theorem rgrown_own {w1 w3 : World} {lv v : Value} {k B n sz : Nat} {ys xs : List Value} {t : TypeId} (ht : t ≠ 61) (o : w1.ownsRow B t sz v n xs) (ol : w1.ownsRow 0 61 5 lv k ys) (g3 : w1.grownBy w3 lv.ownBlock) : w3.ownsRow B t sz v n xs := by
  refine own_keep (fp := fun b => ∃ cs, w1.heap[b]? = some (.cells cs t (0, 0))) o (fun g hg => own_tag o hg) (Kept.grown g3 ?_)
  rintro g hg ⟨cs', hg'⟩
  obtain ⟨cs2, h2⟩ := own_tag ol hg
  rw [hg'] at h2
  injection h2 with h2
  injection h2 with _ h2
  exact ht h2
/-- Behind the append and the store of a write. -/
theorem RInG.push (h : RInG w fp p room l) {lv v3 : Value} {rows : List RFa} {w1 w3 : World} {f : Fa} {A1 A2 : Option Addr} {n1 c1 n2 c2 : Nat} {vr : List RV} (hp : RIParts w fp p room l lv rows) (b1 : Below w.heap.size w w1)
    (hm : vr.map (·.1) = f.rc.vers) (ov : OwnV w1 w.heap.size (.slice A1 n1 c1) n1 vr) (hc1 : n1 ≤ c1) (o2 : w1.ownsRow w.heap.size 3 1 (.slice A2 n2 c2) n2 (f.route.map (Value.int .i64))) (hc2 : n2 ≤ c2) (hn2 : n2 * 8 ≤ 140737488351232) (hr : rightF f = true)
    (own3 : w3.ownsRow 0 61 5 v3 (l.length + 1) (rows.flatMap fV1 ++ fV1 (f, (A1, n1, c1), (A2, n2, c2)))) (g3 : (w1.alloc (.cells #[.int .i64 f.src, .int .i64 f.seq, .string f.rc.key, .slice A1 n1 c1, .slice A2 n2 c2] 61)).grownBy w3 lv.ownBlock)
    (hv3 : v3.ownBlock = lv.ownBlock ∨ v3.ownBlock = some (w1.heap.size + 1)) :
    RITo w fp p room (l ++ [f]) (.int .i64 2) (.returned (.int .i64 2)) (w3.setCell ⟨p, 1, none⟩ v3) ∧ w3.cell? ⟨p, 1, none⟩ = some lv ∧ (∀ j, w3.frozen? ⟨p, j, none⟩ = false) := by
  have hsz := b1.size
  have hF : Fr (fun b => lv.ownBlock = some b) w w3 := ((Fr.of_below b1).trans (Fr.alloc (fun _ => False) w1 _) (fun _ h => h.elim)).trans (Fr.of_grown g3) (fun i hi => .inl hi.symm)
  have ol := own_keep hp.2.1 (fp := fun b => b < w.heap.size) (fun g hg => (hp.2.1.lt g hg).2) (fun b o hb ho => (b1.block b hb).trans ho)
  have ola := ol.alloc (.cells #[.int .i64 f.src, .int .i64 f.seq, .string f.rc.key, .slice A1 n1 c1, .slice A2 n2 c2] 61)
  have o3 := rgrown_own (by decide) (o2.alloc (.cells #[.int .i64 f.src, .int .i64 f.seq, .string f.rc.key, .slice A1 n1 c1, .slice A2 n2 c2] 61)) ola g3
  have ov3 : OwnV w3 w.heap.size (.slice A1 n1 c1) n1 vr := ⟨rgrown_own (by decide) (ov.1.alloc _) ola g3, fun y hy => ⟨rgrown_own (by decide) ((ov.2 y hy).1.alloc _) ola g3, (ov.2 y hy).2⟩⟩
  obtain ⟨hrr, hr1⟩ := rightF_rec hr
  have hn1 : n1 = 1 := by
    have := ov.1.1
    rw [flat_len vV1_len] at this
    have h2 : vr.length = 1 := by rw [← hr1, ← hm, List.length_map]
    omega
  obtain ⟨k1, k2, _⟩ := rightR_true.1 hrr
  have hq : RInG (w3.setCell ⟨p, 1, none⟩ v3) (fun b => fp b ∨ w.heap.size ≤ b ∧ b < w3.heap.size) p room (l ++ [f]) ∧ w3.cell? ⟨p, 1, none⟩ = some lv ∧ (∀ j, w3.frozen? ⟨p, j, none⟩ = false) ∧ Fr fp w (w3.setCell ⟨p, 1, none⟩ v3) := by
    refine h.relist (l' := l ++ [f]) (rows' := rows ++ [(f, (A1, n1, c1), (A2, n2, c2))]) (v3 := v3) hp hF ?_ ?_ ?_ ?_
    · have e1 : (l ++ [f]).length = l.length + 1 := by simp
      have e2 : (rows ++ [((f, (A1, n1, c1), (A2, n2, c2)) : RFa)]).flatMap fV1 = rows.flatMap fV1 ++ fV1 (f, (A1, n1, c1), (A2, n2, c2)) := by rw [List.flatMap_append]; simp
      rw [e1, e2]
      exact own3
    · intro g hg
      rcases hv3 with e | e
      · exact .inl (hp.2.2.1 g (by rw [← e]; exact hg))
      · rw [e] at hg
        injection hg with hg
        exact .inr (by omega)
    · rw [List.map_append, hp.2.2.2.1]; rfl
    · intro y hy
      rcases List.mem_append.1 hy with hy | hy
      · exact .inr (hp.2.2.2.2 y hy)
      · rw [List.mem_singleton.1 hy]
        refine .inl ⟨?_, hc1, by show n1 * 64 ≤ _; omega, by show f.rc.key.size ≤ _; omega, SlF.of_own o3 (fun i h1 h2 => .inr ⟨h1, h2⟩), hc2, hn2, hr⟩
        rw [← hm]
        exact SlVF.of_own ov3 (fun i h1 h2 => .inr ⟨h1, h2⟩)
  obtain ⟨a1, a2, a3, a4⟩ := hq
  exact ⟨⟨rfl, _, a1, a4, fun i hi => hi.elim .inl (fun hh => .inr hh.1)⟩, a2, a3⟩
end
set_option maxHeartbeats 1000000 in
theorem rdot_any (w : World) (f : Fa) (A : Option Addr) (n c : Nat) (sl : Value) (hv : SlV w A n f.rc.vers) (h1 : f.rc.vers.length = 1) :
    Calls Try.prog 43 #[.agg #[.int .i64 f.src, .int .i64 f.seq, .string f.rc.key, .slice A n c, sl]] w (ValE w (.agg #[.int .i64 f.ver.s, .int .i64 f.ver.n])) := by
  obtain ⟨b, off, A2, n2, c2, rfl, rfl, x0, x1, -, -⟩ := ver_at hv h1
  have hlt := World.block_lt_of_cell? w _ x0
  have i0 : (0 : Int) < ((1 : Nat) : Int) := by decide
  clear hv h1
  go_enter Try.func43, Try.ntmps43
  go_wp2
  have kB := heap_alloc_new (w.alloc (.cells #[.int .i64 f.src, .int .i64 f.seq, .string f.rc.key, .slice (some ⟨b, off, none⟩) 1 c, sl] 61)) (.cells #[.int .i64 f.ver.s, .int .i64 f.ver.n] 39)
  rw [show (w.alloc (.cells #[.int .i64 f.src, .int .i64 f.seq, .string f.rc.key, .slice (some ⟨b, off, none⟩) 1 c, sl] 61)).heap.size = w.heap.size + 1 by simp] at kB
  refine bodyPost_ret (results_cell_row rfl _ _ (w.heap.size + 1) _ #[.int .i64 f.ver.s, .int .i64 f.ver.n] _ _ rfl kB Try.underlying39 rfl Try.infoDotSize) rfl ?_
  exact ⟨rfl, ((Below.refl _ _).alloc (Nat.le_refl _) _).alloc (by simp) _⟩
end Go.Proofs.Ytilagblpamhmkaa
