/-
  The document's network in memory.
-/
import Derived.Test.YtcdbpimpmhfkhaaNetP
import Derived.Test.YtcdbpimpmhfkhaaNumPut
namespace Go.Proofs.Ytcdbpimpmhfkhaa
open Go.RowKit
set_option linter.unusedVariables false

def kV (k : K4) : List Value := [.int .i64 k.a, .int .i64 k.b, .int .i64 k.c, .int .i64 k.d]
theorem kV_len (k : K4) : (kV k).length = 4 := rfl
/-- What a packet of the list has in memory. -/
def PkD (w : World) (fp : Nat → Prop) (y : RPk) : Prop := SlF w fp 5 y.2.1 y.2.2.1 1 (bsV y.1.d) ∧ y.2.2.1 ≤ y.2.2.2 ∧ y.1.d.length ≤ tokMax ∧ y.1.wf
/-- Its parts. -/
def RParts (w : World) (fp : Nat → Prop) (q : Nat) (l : List Pk) (cl : List K4) (c : Cnt) (lv cv : Value) (rows : List RPk) : Prop :=
  w.heap[q]? = some (.cells #[lv, cv, .int .i64 c.s, .int .i64 c.t, .int .i64 c.x] 51 (0, 0)) ∧
    w.ownsRow 0 32 5 lv l.length (rows.flatMap pkV1) ∧ (∀ g, lv.ownBlock = some g → fp g) ∧ rows.map (·.1) = l ∧ (∀ y : RPk, y ∈ rows → PkD w fp y) ∧
    w.ownsRow 0 68 4 cv cl.length (cl.flatMap kV) ∧ (∀ g, cv.ownBlock = some g → fp g)
structure RNet (w : World) (fp : Nat → Prop) (q : Nat) (l : List Pk) (cl : List K4) (c : Cnt) : Prop where
  inp : fp q
  ex : ∃ (lv cv : Value) (rows : List RPk), RParts w fp q l cl c lv cv rows
  lt : ∀ b, fp b → b < w.heap.size
/-- What a call leaves. -/
def RTo (w : World) (fp : Nat → Prop) (q : Nat) (l : List Pk) (cl : List K4) (c : Cnt) (v : Value) (e : Ending) (w' : World) : Prop :=
  e = .returned v ∧ ∃ fp', RNet w' fp' q l cl c ∧ Fr fp w w' ∧ Grow w fp fp'
section
variable {w w' : World} {fp fp' : Nat → Prop} {q : Nat} {l : List Pk} {cl : List K4} {c : Cnt}
theorem PkD.kept {y : RPk} (h : PkD w fp y) (hk : Kept fp w w') : PkD w' fp y := ⟨h.1.kept hk, h.2⟩
theorem RParts.kept {lv cv : Value} {rows : List RPk} (h : RParts w fp q l cl c lv cv rows) (hq : fp q) (hk : Kept fp w w') : RParts w' fp q l cl c lv cv rows := by
  obtain ⟨h1, h2, h3, h4, h5, h6, h7⟩ := h
  exact ⟨hk _ _ hq h1, own_keep h2 h3 hk, h3, h4, fun y hy => (h5 y hy).kept hk, own_keep h6 h7 hk, h7⟩
theorem RNet.kept (h : RNet w fp q l cl c) (hk : Kept fp w w') (hsz : w.heap.size ≤ w'.heap.size) : RNet w' fp q l cl c := by
  obtain ⟨lv, cv, rows, hp⟩ := h.ex
  exact ⟨h.inp, ⟨lv, cv, rows, hp.kept h.inp hk⟩, fun b hb => Nat.lt_of_lt_of_le (h.lt b hb) hsz⟩
theorem RNet.below (h : RNet w fp q l cl c) (hb : Below w.heap.size w w') : RNet w' fp q l cl c := h.kept (Kept.below hb) hb.size
theorem RNet.same (h : RNet w fp q l cl c) {v : Value} : RTo w fp q l cl c v (.returned v) w := ⟨rfl, fp, h, Fr.refl _ _, Grow.refl _ _⟩
theorem RNet.later (h : RNet w fp q l cl c) {v : Value} (hb : Below w.heap.size w w') : RTo w fp q l cl c v (.returned v) w' := ⟨rfl, fp, h.below hb, Fr.of_below hb, Grow.refl _ _⟩
theorem RNet.len_ (h : RNet w fp q l cl c) : ∃ A k, w.cell? ⟨q, 0, none⟩ = some (.slice A l.length k) ∧ l.length ≤ k ∧ k ≤ maxLen := by
  obtain ⟨lv, cv, rows, h1, h2, h3, h4, h5, h6, h7⟩ := h.ex
  obtain ⟨A, k, rfl, hc, hm⟩ := own_slice h2
  exact ⟨A, k, blk_cell h1 rfl, hc, hm⟩
theorem RNet.cuts_ (h : RNet w fp q l cl c) : ∃ A k, w.cell? ⟨q, 1, none⟩ = some (.slice A cl.length k) ∧ cl.length ≤ k ∧ k ≤ maxLen ∧ Sl w A cl.length 4 (cl.flatMap kV) := by
  obtain ⟨lv, cv, rows, h1, h2, h3, h4, h5, h6, h7⟩ := h.ex
  obtain ⟨A, k, rfl, hc, hm⟩ := own_slice h6
  exact ⟨A, k, blk_cell h1 rfl, hc, hm, Sl.of_own h6⟩
theorem RNet.cnt_ (h : RNet w fp q l cl c) : w.cell? ⟨q, 2, none⟩ = some (.int .i64 c.s) ∧ w.cell? ⟨q, 3, none⟩ = some (.int .i64 c.t) ∧ w.cell? ⟨q, 4, none⟩ = some (.int .i64 c.x) ∧ ∀ j, w.frozen? ⟨q, j, none⟩ = false := by
  obtain ⟨lv, cv, rows, h1, _⟩ := h.ex
  exact ⟨blk_cell h1 rfl, blk_cell h1 rfl, blk_cell h1 rfl, fun j => blk_free h1 j⟩
/-- The cells of the packet of a number. -/
theorem RNet.at_ (h : RNet w fp q l cl c) {k : Nat} {x : Pk} (hx : l[k]? = some x) :
    ∃ (g cc : Nat) (A : Option Addr) (n k2 : Nat), w.cell? ⟨q, 0, none⟩ = some (.slice (some ⟨g, 0, none⟩) l.length cc) ∧ w.cell? ⟨g, k * 5, none⟩ = some (.int .i64 x.fs) ∧ w.cell? ⟨g, k * 5 + 1, none⟩ = some (.int .i64 x.fn) ∧ w.cell? ⟨g, k * 5 + 2, none⟩ = some (.int .i64 x.ts) ∧
      w.cell? ⟨g, k * 5 + 3, none⟩ = some (.int .i64 x.tn) ∧ w.cell? ⟨g, k * 5 + 4, none⟩ = some (.slice A n k2) ∧ (∀ j, w.frozen? ⟨g, j, none⟩ = false) ∧ PkD w fp (x, A, n, k2) ∧ k < l.length ∧ g < w.heap.size := by
  obtain ⟨lv, cv, rows, h1, h2, h3, h4, h5, h6, h7⟩ := h.ex
  have hk := (List.getElem?_eq_some_iff.1 hx).1
  obtain ⟨g, cc, hv, _, _⟩ := h2.form (by omega)
  subst hv
  obtain ⟨y, hy⟩ : ∃ y, rows[k]? = some y := ⟨_, List.getElem?_eq_getElem (by rw [← h4, List.length_map] at hk; exact hk)⟩
  have hyx : y.1 = x := by
    rw [← h4, List.getElem?_map, hy] at hx
    simpa using hx
  have t := h5 y (List.mem_of_getElem? hy)
  have hc := fun r (hr : r < 5) => (h2.cellAt (k * 5 + r) (by omega)).trans (flat_at pkV1_len rows k r y hy hr)
  obtain ⟨yp, A, n, k2⟩ := y
  simp only at hyx
  subst hyx
  exact ⟨g, cc, A, n, k2, blk_cell h1 rfl, hc 0 (by omega), hc 1 (by omega), hc 2 (by omega), hc 3 (by omega), hc 4 (by omega), fun j => h2.frozenAt j, t, hk, (h2.lt g rfl).2⟩
/-- The footprint behind a call: what it was, and what is new. -/
abbrev fpN (w w' : World) (fp : Nat → Prop) : Nat → Prop := fun b => fp b ∨ w.heap.size ≤ b ∧ b < w'.heap.size
/-- Another list is laid. -/
theorem RNet.relist (h : RNet w fp q l cl c) {lv cv v3 : Value} {rows rows' : List RPk} {l' : List Pk} {w3 : World} (hp : RParts w fp q l cl c lv cv rows) (hF : Fr (fun b => lv.ownBlock = some b) w w3)
    (own3 : w3.ownsRow 0 32 5 v3 l'.length (rows'.flatMap pkV1)) (hv3 : ∀ g, v3.ownBlock = some g → fp g ∨ w.heap.size ≤ g) (hm : rows'.map (·.1) = l') (hd : ∀ y : RPk, y ∈ rows' → PkD w3 (fpN w w3 fp) y ∨ PkD w fp y) :
    RNet (w3.setCell ⟨q, 0, none⟩ v3) (fpN w w3 fp) q l' cl c ∧ w3.cell? ⟨q, 0, none⟩ = some lv ∧ (∀ j, w3.frozen? ⟨q, j, none⟩ = false) ∧ Fr fp w (w3.setCell ⟨q, 0, none⟩ v3) := by
  obtain ⟨h1, h2, h3, h4, h5, h6, h7⟩ := hp
  have hlq := h.lt _ h.inp
  have hrowt : ∀ b, lv.ownBlock = some b → ∃ cs, w.heap[b]? = some (.cells cs 32 (0, 0)) := fun b hb => own_tag h2 hb
  have hk : Kept (fun b => ¬ lv.ownBlock = some b) w w3 := hF.kept fun i hi hi' => hi hi'
  have hq : ¬ lv.ownBlock = some q := fun e => by obtain ⟨cs, hcs⟩ := hrowt q e; exact tag_ne hcs h1 (by decide) rfl
  have htop := hk _ _ hq h1
  have hkq : Kept (fun b => b ≠ q) w3 (w3.setCell ⟨q, 0, none⟩ v3) := Kept.set _ (fun hh => hh rfl)
  have tag3 : ∀ {b : Nat} {cs : Array Value} {t : TypeId}, t ≠ 51 → w3.heap[b]? = some (.cells cs t (0, 0)) → (w3.setCell ⟨q, 0, none⟩ v3).heap[b]? = some (.cells cs t (0, 0)) := fun ht hb => hkq _ _ (tag_ne hb htop ht) hb
  have tagk : ∀ {b : Nat} {cs : Array Value} {t : TypeId}, t ≠ 32 → w.heap[b]? = some (.cells cs t (0, 0)) → w3.heap[b]? = some (.cells cs t (0, 0)) := fun ht hb => hk _ _ (fun e => by obtain ⟨cs', hcs'⟩ := hrowt _ e; exact tag_ne hcs' hb (fun e2 => ht e2.symm) rfl) hb
  have hfr : Fr fp w (w3.setCell ⟨q, 0, none⟩ v3) := (hF.mono (fun i hi => .inl (h3 i hi))).trans (Fr.set w3 ⟨q, 0, none⟩ v3) (fun i hi => by subst hi; exact .inl h.inp)
  refine ⟨⟨.inl h.inp, ⟨v3, cv, rows', ?_, ?_, ?_, hm, ?_, ?_, fun g hg => .inl (h7 g hg)⟩, ?_⟩, blk_cell htop rfl, blk_free htop, hfr⟩
  · rw [heap_setCell_same w3 q 0 _ _ v3 htop]; rfl
  · refine own_keep own3 (fp := fun b => b ≠ q) (fun g hg => ?_) hkq
    obtain ⟨cs, hcs⟩ := own_tag own3 hg
    exact tag_ne hcs htop (by decide)
  · intro g hg
    exact (hv3 g hg).elim .inl fun hh => .inr ⟨hh, (own3.lt g hg).2⟩
  · intro y hy
    rcases hd y hy with t | t
    · exact ⟨t.1.keep fun b cs hb ho => tag3 (by decide) ho, t.2⟩
    · exact ⟨(t.1.keep fun b cs hb ho => tag3 (by decide) (tagk (by decide) ho)).mono (fun b _ hb => .inl hb), t.2⟩
  · refine own_keep (fp := fun b => ∃ cs, w.heap[b]? = some (.cells cs 68 (0, 0))) h6 (fun g hg => own_tag h6 hg) ?_
    rintro b o ⟨cs, hb⟩ ho
    rw [hb] at ho
    injection ho with ho
    subst ho
    exact tag3 (by decide) (tagk (by decide) hb)
  · intro b hb
    rcases hb with hb | hb
    · have := h.lt b hb
      have := hF.size
      simp
      omega
    · simpa using hb.2
/-- A counter goes on. -/
theorem RNet.count (h : RNet w fp q l cl c) {j : Nat} {u : Value} {c' : Cnt} (hset : ∀ lv cv : Value, (#[lv, cv, .int .i64 c.s, .int .i64 c.t, .int .i64 c.x] : Array Value).setIfInBounds j u = #[lv, cv, .int .i64 c'.s, .int .i64 c'.t, .int .i64 c'.x]) :
    RNet (w.setCell ⟨q, j, none⟩ u) fp q l cl c' ∧ Fr fp w (w.setCell ⟨q, j, none⟩ u) := by
  obtain ⟨lv, cv, rows, h1, h2, h3, h4, h5, h6, h7⟩ := h.ex
  have hkq : Kept (fun b => b ≠ q) w (w.setCell ⟨q, j, none⟩ u) := Kept.set _ (fun hh => hh rfl)
  have tag : ∀ {b : Nat} {cs : Array Value} {t : TypeId}, t ≠ 51 → w.heap[b]? = some (.cells cs t (0, 0)) → b ≠ q := fun ht hb => tag_ne hb h1 ht
  refine ⟨⟨h.inp, ⟨lv, cv, rows, ?_, ?_, h3, h4, ?_, ?_, h7⟩, fun b hb => by simpa using h.lt b hb⟩, (Fr.set w ⟨q, j, none⟩ u).mono fun i hi => .inl (by subst hi; exact h.inp)⟩
  · rw [heap_setCell_same w q j _ _ u h1, hset]
  · exact own_keep h2 (fp := fun b => b ≠ q) (fun g hg => by obtain ⟨cs, hcs⟩ := own_tag h2 hg; exact tag (by decide) hcs) hkq
  · exact fun y hy => ⟨(h5 y hy).1.keep fun b cs hb ho => hkq b _ (tag (by decide) ho) ho, (h5 y hy).2⟩
  · exact own_keep h6 (fp := fun b => b ≠ q) (fun g hg => by obtain ⟨cs, hcs⟩ := own_tag h6 hg; exact tag (by decide) hcs) hkq
end
set_option maxHeartbeats 1000000 in
theorem refOwn_any (p : Pk) (A : Option Addr) (n c : Nat) (w : World) (hs : SlB w A n p.d) (hc : n ≤ c) (hn : n ≤ tokMax) :
    Calls Try.prog 41 #[.agg #[.int .i64 p.fs, .int .i64 p.fn, .int .i64 p.ts, .int .i64 p.tn, .slice A n c]] w (NewPk w p) := by
  obtain ⟨i0, hi, hz0, hz1, hz2⟩ := info_parts Try.infoU8
  have hn' : n ≤ 140737488351232 := by rw [tokMax_eq] at hn; exact hn
  have HS := Lib.hid (show SlB ((w.alloc (.cells #[.int .i64 p.fs, .int .i64 p.fn, .int .i64 p.ts, .int .i64 p.tn, .slice A n c] 32)).alloc (.cells #[.int .i64 0, .int .i64 0, .int .i64 0, .int .i64 0, .slice none 0 0] 32)) A n p.d from Sl.alloc (Sl.alloc hs _) _)
  have HW := Lib.hid (And.intro hs hn)
  clear hs hn
  go_enter Try.func41, Try.ntmps41
  go_wp2_with (first | (at_builtin; refine wpList_append_sl _ rfl (.tmp 4) (.tmp 6) 30 rfl ((w.heap.size + 2)) 5 i0 (.int .u8 0) 1 1 Try.underlying30 hi hz0 hz1 hz2 rfl (by decide) (.slice none 0 0) (0) ([]) rfl (World.ownsRow_nil _ _ _ _) (A) (n) (c) (bsV p.d) rfl (HS.out) (bsV_one _) (by unfold maxLen; omega) (by omega) ((by simp)) ?_) | fail)
  intro v1 w1 o1 g1 _
  obtain ⟨A1, c1, rfl, hc1, -⟩ := own_slice o1
  have b1 := (Below.refl ((w.alloc (.cells #[.int .i64 p.fs, .int .i64 p.fn, .int .i64 p.ts, .int .i64 p.tn, .slice A n c] 32)).alloc (.cells #[.int .i64 0, .int .i64 0, .int .i64 0, .int .i64 0, .slice none 0 0] 32)).heap.size _).grown g1 (Nat.le_refl _) (fun q hq => by cases hq)
  have k1 : w1.heap[w.heap.size]? = some (.cells #[.int .i64 p.fs, .int .i64 p.fn, .int .i64 p.ts, .int .i64 p.tn, .slice A n c] 32 (0, 0)) := by
    rw [b1.block _ (by simp; omega)]
    exact (Below.heap_alloc _ _ _ (by simp)).trans (heap_alloc_new w _)
  have k2 : w1.heap[w.heap.size + 1]? = some (.cells #[.int .i64 0, .int .i64 0, .int .i64 0, .int .i64 0, .slice none 0 0] 32 (0, 0)) := by
    rw [b1.block _ (by simp)]
    have := heap_alloc_new (w.alloc (.cells #[.int .i64 p.fs, .int .i64 p.fn, .int .i64 p.ts, .int .i64 p.tn, .slice A n c] 32)) (.cells #[.int .i64 0, .int .i64 0, .int .i64 0, .int .i64 0, .slice none 0 0] 32)
    simpa using this
  have x0 := blk_cell (j := 0) k1 rfl
  have x1 := blk_cell (j := 1) k1 rfl
  have x2 := blk_cell (j := 2) k1 rfl
  have x3 := blk_cell (j := 3) k1 rfl
  have x4 := blk_cell (j := 4) k1 rfl
  have fx := blk_free k1 4
  have y0 := blk_cell (j := 0) k2 rfl
  have y1 := blk_cell (j := 1) k2 rfl
  have y2 := blk_cell (j := 2) k2 rfl
  have y3 := blk_cell (j := 3) k2 rfl
  have y4 := blk_cell (j := 4) k2 rfl
  have g0 := blk_free k2 0
  have g1' := blk_free k2 1
  have g2 := blk_free k2 2
  have g3 := blk_free k2 3
  have g4 := blk_free k2 4
  have HK := Lib.hid (fun u => (Below.heap_setCell w1 ⟨w.heap.size, 4, none⟩ u (w.heap.size + 1) (by simp)).trans k2)
  have HB := Lib.hid (And.intro b1 (And.intro o1 hc1))
  clear k1 k2 b1 o1 hc1 HS g1
  go_wp2
  refine bodyPost_ret (results_cell_row rfl _ _ (w.heap.size + 1) _ #[.int .i64 p.fs, .int .i64 p.fn, .int .i64 p.ts, .int .i64 p.tn, .slice A1 n c1] _ _ rfl (set5_heap (HK.out _)) Try.underlying32 rfl Try.infoPkSize) rfl ?_
  obtain ⟨b1, o1, hc1⟩ := HB.out
  have F : Fr (fun i => i = w.heap.size ∨ i = w.heap.size + 1) w1 (set5 (w1.setCell ⟨w.heap.size, 4, none⟩ (.slice A1 n c1)) (w.heap.size + 1) (.int .i64 p.fs) (.int .i64 p.fn) (.int .i64 p.ts) (.int .i64 p.tn) (.slice A1 n c1)) :=
    ((Fr.set w1 ⟨w.heap.size, 4, none⟩ _).mono (fun i hi => .inl (.inl hi))).trans set5_fr (fun i hi => .inl (.inr hi))
  have o2 := own_keep (fp := fun b => w.heap.size + 2 ≤ b) o1 (fun g hg => (o1.lt g hg).1) (F.kept fun i hi hh => by omega)
  refine ⟨A1, n, c1, rfl, Sl.of_own o2, hc1, HW.out.2, own_lower o2 (by omega), ?_⟩
  exact (((Below.refl _ w).alloc (Nat.le_refl _) _).alloc (by simp) _).trans (b1.mono (by simp; omega)) |>.trans (F.below (fun i hi => by omega) (by have := b1.size; simp at this; omega))
end Go.Proofs.Ytcdbpimpmhfkhaa
