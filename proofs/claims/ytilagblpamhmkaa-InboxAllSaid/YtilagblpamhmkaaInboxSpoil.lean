/-
  A far write whose memory is being spoilt: its heads stay. No program is looked at here.
-/
import Derived.Test.YtilagblpamhmkaaInboxSame
namespace Go.Proofs.Ytilagblpamhmkaa
open Go.RowKit
set_option linter.unusedVariables false

def Blk (w : World) (g : Nat) (t : TypeId) (cs : Array Value) : Prop := w.heap[g]? = some (.cells cs t (0, 0))
theorem Blk.set {w : World} {g : Nat} {t : TypeId} {cs : Array Value} (h : Blk w g t cs) (b j : Nat) (u : Value) :
    ∃ cs', Blk (w.setCell ⟨b, j, none⟩ u) g t cs' ∧ cs'.size = cs.size ∧ ∀ i, (b ≠ g ∨ j ≠ i) → cs'[i]? = cs[i]? := by
  by_cases hb : b = g
  · subst hb
    refine ⟨cs.setIfInBounds j u, heap_setCell_same w b j cs t u h, by simp, fun i hi => ?_⟩
    rcases hi with hi | hi
    · exact absurd rfl hi
    · rw [Array.getElem?_setIfInBounds_ne hi]
  · exact ⟨cs, (Below.heap_setCell w ⟨b, j, none⟩ u g (fun e => hb e.symm)).trans h, rfl, fun _ _ => rfl⟩
theorem Blk.tag {w : World} {g : Nat} {t t' : TypeId} {cs cs' : Array Value} (h : Blk w g t cs) (h' : Blk w g t' cs') : t = t' := by
  unfold Blk at h h'
  rw [h] at h'
  injection h' with h'
  injection h'
theorem Blk.cell {w : World} {g i : Nat} {t : TypeId} {cs : Array Value} {v : Value} (h : Blk w g t cs) (hv : cs[i]? = some v) : w.cell? ⟨g, i, none⟩ = some v := by rw [cell_of_row w g i _ _ (0, 0) h]; exact hv
theorem Blk.frozen {w : World} {g : Nat} {t : TypeId} {cs : Array Value} (h : Blk w g t cs) (i : Nat) : w.frozen? ⟨g, i, none⟩ = false := frozen_of_row w g i _ _ h
/-- The heads of a write whose values may have been spoilt. -/
structure SpF (fp : Nat → Prop) (w : World) (h ho : Nat) (A : Option Addr) (c : Nat) (Ap : Option Addr) (np cp : Nat) (A2 : Option Addr) (n2 c2 : Nat) : Prop where
  head : ∃ cs, Blk w h 35 cs ∧ cs[ho + 3]? = some (.slice A 1 c) ∧ cs[ho + 4]? = some (.slice A2 n2 c2)
  ver : ∃ g off cs, A = some ⟨g, off, none⟩ ∧ fp g ∧ Blk w g 42 cs ∧ cs[off + 1 + 1]? = some (.slice Ap np cp) ∧ off + 4 < cs.size
  past : 0 < np → ∃ g off cs, Ap = some ⟨g, off, none⟩ ∧ fp g ∧ Blk w g 53 cs ∧ off + np * 3 ≤ cs.size
  route : 0 < n2 → ∃ g off cs, A2 = some ⟨g, off, none⟩ ∧ fp g ∧ Blk w g 3 cs ∧ off + n2 ≤ cs.size
section
variable {fp : Nat → Prop} {w w' : World} {h ho : Nat} {A : Option Addr} {c : Nat} {Ap : Option Addr} {np cp : Nat} {A2 : Option Addr} {n2 c2 : Nat}
theorem SpF.set (s : SpF fp w h ho A c Ap np cp A2 n2 c2) (b j : Nat) (u : Value) (h1 : ∀ cs, ¬ Blk w b 35 cs) (h2 : ∀ cs, Blk w b 42 cs → ∀ off, A = some ⟨b, off, none⟩ → j = off + 4) : SpF fp (w.setCell ⟨b, j, none⟩ u) h ho A c Ap np cp A2 n2 c2 := by
  obtain ⟨⟨cs, b1, b2, b3⟩, ⟨g, off, cv, rfl, hg, v1, v2, v3⟩, hp, hr⟩ := s
  have hbh : b ≠ h := fun e => h1 cs (e ▸ b1)
  refine ⟨?_, ?_, fun hn => ?_, fun hn => ?_⟩
  · obtain ⟨cs', e1, e2, e3⟩ := b1.set b j u
    exact ⟨cs', e1, (e3 _ (.inl hbh)).trans b2, (e3 _ (.inl hbh)).trans b3⟩
  · obtain ⟨cs', e1, e2, e3⟩ := v1.set b j u
    refine ⟨g, off, cs', rfl, hg, e1, (e3 _ ?_).trans v2, by omega⟩
    by_cases e : b = g
    · subst e
      have := h2 cv v1 off rfl
      exact .inr (by omega)
    · exact .inl e
  · obtain ⟨g', off', cs, rfl, hg', p1, p2⟩ := hp hn
    obtain ⟨cs', e1, e2, e3⟩ := p1.set b j u
    exact ⟨g', off', cs', rfl, hg', e1, by omega⟩
  · obtain ⟨g', off', cs, rfl, hg', p1, p2⟩ := hr hn
    obtain ⟨cs', e1, e2, e3⟩ := p1.set b j u
    exact ⟨g', off', cs', rfl, hg', e1, by omega⟩
theorem SpF.tagged (s : SpF fp w h ho A c Ap np cp A2 n2 c2) {b : Nat} {t : TypeId} {cs : Array Value} (hb : Blk w b t cs) (ht : t = 53 ∨ t = 3) (j : Nat) (u : Value) : SpF fp (w.setCell ⟨b, j, none⟩ u) h ho A c Ap np cp A2 n2 c2 :=
  s.set b j u (fun cs' hc => by have := hb.tag hc; rcases ht with e | e <;> rw [e] at this <;> exact absurd this (by decide)) (fun cs' hc off e => by have := hb.tag hc; rcases ht with e | e <;> rw [e] at this <;> exact absurd this (by decide))
theorem SpF.setVal (s : SpF fp w h ho A c Ap np cp A2 n2 c2) {b off : Nat} (hA : A = some ⟨b, off, none⟩) (u : Value) : SpF fp (w.setCell ⟨b, off + 4, none⟩ u) h ho A c Ap np cp A2 n2 c2 := by
  obtain ⟨g, off', cv, e, hg, v1, v2, v3⟩ := s.ver
  rw [hA] at e
  injection e with e
  injection e with e1 e2
  subst e1 e2
  refine s.set b (off + 4) u (fun cs' hc => by have := v1.tag hc; exact absurd this (by decide)) (fun cs' hc o2 e => ?_)
  rw [hA] at e
  injection e with e
  injection e with e1 e2
  omega
/-- The version's cells: the head of its Past, and its text. -/
theorem SpF.ver_at (s : SpF fp w h ho A c Ap np cp A2 n2 c2) : ∃ g off, A = some ⟨g, off, none⟩ ∧ fp g ∧ w.cell? ⟨g, off + 1 + 1, none⟩ = some (.slice Ap np cp) ∧ (∃ u, w.cell? ⟨g, off + 4, none⟩ = some u) ∧ w.frozen? ⟨g, off + 4, none⟩ = false := by
  obtain ⟨g, off, cv, rfl, hg, v1, v2, v3⟩ := s.ver
  exact ⟨g, off, rfl, hg, v1.cell v2, ⟨_, v1.cell (Array.getElem?_eq_getElem v3)⟩, v1.frozen _⟩
theorem SpF.past_at (s : SpF fp w h ho A c Ap np cp A2 n2 c2) {k : Nat} (hk : k < np) : ∃ g off cs, Ap = some ⟨g, off, none⟩ ∧ fp g ∧ Blk w g 53 cs ∧ (∃ u, w.cell? ⟨g, off + k * 3 + 2, none⟩ = some u) ∧ w.frozen? ⟨g, off + k * 3 + 2, none⟩ = false := by
  obtain ⟨g, off, cs, rfl, hg, p1, p2⟩ := s.past (by omega)
  exact ⟨g, off, cs, rfl, hg, p1, ⟨_, p1.cell (Array.getElem?_eq_getElem (by omega))⟩, p1.frozen _⟩
theorem SpF.route_at (s : SpF fp w h ho A c Ap np cp A2 n2 c2) {k : Nat} (hk : k < n2) : ∃ g off cs, A2 = some ⟨g, off, none⟩ ∧ fp g ∧ Blk w g 3 cs ∧ (∃ u, w.cell? ⟨g, off + k, none⟩ = some u) ∧ w.frozen? ⟨g, off + k, none⟩ = false := by
  obtain ⟨g, off, cs, rfl, hg, p1, p2⟩ := s.route (by omega)
  exact ⟨g, off, cs, rfl, hg, p1, ⟨_, p1.cell (Array.getElem?_eq_getElem (by omega))⟩, p1.frozen _⟩
theorem SpF.head_at (s : SpF fp w h ho A c Ap np cp A2 n2 c2) : w.cell? ⟨h, ho + 3, none⟩ = some (.slice A 1 c) ∧ w.cell? ⟨h, ho + 4, none⟩ = some (.slice A2 n2 c2) := by
  obtain ⟨cs, b1, b2, b3⟩ := s.head
  exact ⟨b1.cell b2, b1.cell b3⟩
theorem SpF.kept (s : SpF fp w h ho A c Ap np cp A2 n2 c2) (hk : Kept (fun b => b = h ∨ fp b) w w') : SpF fp w' h ho A c Ap np cp A2 n2 c2 := by
  obtain ⟨⟨cs, b1, b2, b3⟩, ⟨g, off, cv, rfl, hg, v1, v2, v3⟩, hp, hr⟩ := s
  refine ⟨⟨cs, hk _ _ (.inl rfl) b1, b2, b3⟩, ⟨g, off, cv, rfl, hg, hk _ _ (.inr hg) v1, v2, v3⟩, fun hn => ?_, fun hn => ?_⟩
  · obtain ⟨g', off', cs, rfl, hg', p1, p2⟩ := hp hn
    exact ⟨g', off', cs, rfl, hg', hk _ _ (.inr hg') p1, p2⟩
  · obtain ⟨g', off', cs, rfl, hg', p1, p2⟩ := hr hn
    exact ⟨g', off', cs, rfl, hg', hk _ _ (.inr hg') p1, p2⟩
theorem cells_size {g off n : Nat} {t : TypeId} {cs : Array Value} {xs : List Value} {A : Option Addr} {sz : Nat} (hb : Blk w g t cs) (hs : Sl w A n sz xs) (hA : A = some ⟨g, off, none⟩) (hn : 0 < n * sz) : off + n * sz ≤ cs.size := by
  obtain ⟨b, o, e, hc⟩ := hs.2 hn
  rw [hA] at e
  injection e with e
  injection e with e1 e2
  subst e1 e2
  have hl := hs.1
  have hx : xs[n * sz - 1]? = some (xs[n * sz - 1]'(by omega)) := List.getElem?_eq_getElem _
  have h1 := hc (n * sz - 1) _ hx
  rw [cell_of_row w g _ _ _ (0, 0) hb] at h1
  have := (Array.getElem?_eq_some_iff.1 h1).1
  omega
/-- What a right write lies in. -/
theorem SpF.of_fd {f : Fa} {n : Nat} (hd : FaD w fp (f, (A, n, c), (A2, n2, c2))) {cs : Array Value} (hb : Blk w h 35 cs) (h3 : cs[ho + 3]? = some (.slice A n c)) (h4 : cs[ho + 4]? = some (.slice A2 n2 c2)) : n = 1 ∧ ∃ Ap np cp, np * 24 ≤ 140737488351232 ∧ SpF fp w h ho A c Ap np cp A2 n2 c2 := by
  obtain ⟨rows, hr, hs, hv⟩ := hd.vs
  simp only at hr hs
  have h1 := (rightF_rec hd.right).2
  simp only at h1
  have hl : rows.length = 1 := by rw [← hr, List.length_map] at h1; exact h1
  obtain ⟨y, rfl⟩ : ∃ y, rows = [y] := List.length_eq_one_iff.1 hl
  have hn : n = 1 := by have := hs.1.1; simp [vV1_len] at this; omega
  subst hn
  obtain ⟨p1, p2⟩ := hv y (List.mem_singleton.2 rfl)
  obtain ⟨b, off, e, hc⟩ := hs.1.2 (by omega)
  obtain ⟨hf, cv, hcv⟩ := hs.2 b off none (by omega) e
  have hsz := cells_size (cs := cv) hcv hs.1 e (by omega)
  have h2 := hc 2 (.slice y.2.1 y.2.2.1 y.2.2.2) rfl
  rw [cell_of_row w b _ _ _ (0, 0) hcv] at h2
  refine ⟨rfl, y.2.1, y.2.2.1, y.2.2.2, p2.len, ⟨⟨cs, hb, h3, h4⟩, ⟨b, off, cv, e, hf, hcv, h2, by omega⟩, fun hn => ?_, fun hn => ?_⟩⟩
  · obtain ⟨b2, o2, e2, hc2⟩ := p1.1.2 (by omega)
    obtain ⟨hf2, cp2, hcp2⟩ := p1.2 b2 o2 none (by omega) e2
    exact ⟨b2, o2, cp2, e2, hf2, hcp2, cells_size (cs := cp2) hcp2 p1.1 e2 (by omega)⟩
  · have hro : SlF w fp 3 A2 n2 1 (f.route.map (Value.int .i64)) := hd.ro
    obtain ⟨b2, o2, e2, hc2⟩ := hro.1.2 (by omega)
    obtain ⟨hf2, cp2, hcp2⟩ := hro.2 b2 o2 none (by omega) e2
    have := cells_size (cs := cp2) hcp2 hro.1 e2 (by omega)
    exact ⟨b2, o2, cp2, e2, hf2, hcp2, by omega⟩
end
theorem blk_of_own {w : World} {B n c sz : Nat} {A : Option Addr} {e : TypeId} {xs : List Value} (h : w.ownsRow B e sz (.slice A n c) n xs) (hn : 0 < n) : ∃ g cs, A = some ⟨g, 0, none⟩ ∧ B ≤ g ∧ Blk w g e cs ∧ ∀ i v, i < n * sz → xs[i]? = some v → cs[i]? = some v := by
  obtain ⟨g, cc, hv, _, _⟩ := h.form hn
  injection hv with hv1 _ hv2
  subst hv1 hv2
  obtain ⟨cs, hcs⟩ := own_tag h rfl
  refine ⟨g, cs, rfl, (h.lt g rfl).1, hcs, fun i v hi hx => ?_⟩
  have h1 := h.cellAt i hi
  rw [cell_of_row w g i _ _ (0, 0) hcs, hx] at h1
  exact h1
/-! ### The inbox while other memory is written -/
section
variable {K : Nat → Prop} {w0 w w' : World} {p : Nat} {room : Int} {l : List Fa}
/-- From here on, what is in K is kept as it is now. -/
theorem IP.here (h : IP K w0 w p room l) : IP K w w p room l := by
  obtain ⟨fp, h1, h2, h3, h4⟩ := h
  exact ⟨fp, h1, h2, Fr.refl _ _, fun b hb => Nat.lt_of_lt_of_le (h4 b hb) h3.size⟩
theorem IP.write (h : IP K w w p room l) {b : Nat} (hb : K b) (j : Nat) (u : Value) : IP K (w.setCell ⟨b, j, none⟩ u) (w.setCell ⟨b, j, none⟩ u) p room l := by
  obtain ⟨fp, h1, h2, h3, h4⟩ := h
  exact ⟨fp, h1.kept (Kept.set _ (fun hf => h2 b hf hb)) (by simp), h2, Fr.refl _ _, fun i hi => by simpa using h4 i hi⟩
end
/-- The inbox with one write, beside memory that is being spoilt. -/
structure KSt (K fp : Nat → Prop) (W1 w : World) (p : Nat) (f : Fa) (h ho : Nat) (A : Option Addr) (c : Nat) (Ap : Option Addr) (np cp : Nat) (A2 : Option Addr) (n2 c2 : Nat) : Prop where
  ip : IP K w w p 1 [f]
  sp : SpF fp w h ho A c Ap np cp A2 n2 c2
  bel : Below W1.heap.size W1 w
  sub : ∀ b, fp b → K b ∧ W1.heap.size ≤ b
section
variable {K fp : Nat → Prop} {W1 w : World} {p : Nat} {f : Fa} {h ho : Nat} {A : Option Addr} {c : Nat} {Ap : Option Addr} {np cp : Nat} {A2 : Option Addr} {n2 c2 : Nat}
theorem KSt.val (s : KSt K fp W1 w p f h ho A c Ap np cp A2 n2 c2) : ∃ g off, A = some ⟨g, off, none⟩ ∧ (∃ u, w.cell? ⟨g, off + 4, none⟩ = some u) ∧ w.frozen? ⟨g, off + 4, none⟩ = false ∧ ∀ u, KSt K fp W1 (w.setCell ⟨g, off + 4, none⟩ u) p f h ho A c Ap np cp A2 n2 c2 := by
  obtain ⟨g, off, hA, hg, -, h1, h2⟩ := s.sp.ver_at
  exact ⟨g, off, hA, h1, h2, fun u => ⟨s.ip.write (s.sub g hg).1 _ u, s.sp.setVal hA u, s.bel.setCell (p := ⟨g, off + 4, none⟩) (s.sub g hg).2 u, s.sub⟩⟩
theorem KSt.pst (s : KSt K fp W1 w p f h ho A c Ap np cp A2 n2 c2) {k : Nat} (hk : k < np) : ∃ g off, Ap = some ⟨g, off, none⟩ ∧ (∃ u, w.cell? ⟨g, off + k * 3 + 2, none⟩ = some u) ∧ w.frozen? ⟨g, off + k * 3 + 2, none⟩ = false ∧ ∀ u, KSt K fp W1 (w.setCell ⟨g, off + k * 3 + 2, none⟩ u) p f h ho A c Ap np cp A2 n2 c2 := by
  obtain ⟨g, off, cs, hA, hg, hb, h1, h2⟩ := s.sp.past_at hk
  exact ⟨g, off, hA, h1, h2, fun u => ⟨s.ip.write (s.sub g hg).1 _ u, s.sp.tagged hb (.inl rfl) _ u, s.bel.setCell (p := ⟨g, off + k * 3 + 2, none⟩) (s.sub g hg).2 u, s.sub⟩⟩
theorem KSt.rte (s : KSt K fp W1 w p f h ho A c Ap np cp A2 n2 c2) {k : Nat} (hk : k < n2) : ∃ g off, A2 = some ⟨g, off, none⟩ ∧ (∃ u, w.cell? ⟨g, off + k, none⟩ = some u) ∧ w.frozen? ⟨g, off + k, none⟩ = false ∧ ∀ u, KSt K fp W1 (w.setCell ⟨g, off + k, none⟩ u) p f h ho A c Ap np cp A2 n2 c2 := by
  obtain ⟨g, off, cs, hA, hg, hb, h1, h2⟩ := s.sp.route_at hk
  exact ⟨g, off, hA, h1, h2, fun u => ⟨s.ip.write (s.sub g hg).1 _ u, s.sp.tagged hb (.inr rfl) _ u, s.bel.setCell (p := ⟨g, off + k, none⟩) (s.sub g hg).2 u, s.sub⟩⟩
theorem KSt.heads' {g off : Nat} (s : KSt K fp W1 w p f h 0 (some ⟨g, off, none⟩) c Ap np cp A2 n2 c2) : w.cell? ⟨h, 3, none⟩ = some (.slice (some ⟨g, off, none⟩) 1 c) ∧ w.cell? ⟨h, 4, none⟩ = some (.slice A2 n2 c2) ∧ w.cell? ⟨g, off + 2, none⟩ = some (.slice Ap np cp) := by
  obtain ⟨g', off', e, hg, h1, -, -⟩ := s.sp.ver_at
  injection e with e
  injection e with e1 e2
  subst e1 e2
  obtain ⟨h2, h3⟩ := s.sp.head_at
  exact ⟨h2, h3, h1⟩
theorem KSt.val' {g off : Nat} (s : KSt K fp W1 w p f h ho (some ⟨g, off, none⟩) c Ap np cp A2 n2 c2) : (∃ u, w.cell? ⟨g, off + 4, none⟩ = some u) ∧ w.frozen? ⟨g, off + 4, none⟩ = false ∧ ∀ u, KSt K fp W1 (w.setCell ⟨g, off + 4, none⟩ u) p f h ho (some ⟨g, off, none⟩) c Ap np cp A2 n2 c2 := by
  obtain ⟨g', off', e, h1, h2, h3⟩ := s.val
  injection e with e
  injection e with e1 e2
  subst e1 e2
  exact ⟨h1, h2, h3⟩
/-- The cells that lead to the version, its Past, the route. -/
theorem KSt.heads (s : KSt K fp W1 w p f h ho A c Ap np cp A2 n2 c2) : ∃ g off, A = some ⟨g, off, none⟩ ∧ w.cell? ⟨h, ho + 3, none⟩ = some (.slice (some ⟨g, off, none⟩) 1 c) ∧ w.cell? ⟨h, ho + 4, none⟩ = some (.slice A2 n2 c2) ∧ w.cell? ⟨g, off + 2, none⟩ = some (.slice Ap np cp) := by
  obtain ⟨g, off, hA, hg, h1, -, -⟩ := s.sp.ver_at
  obtain ⟨h2, h3⟩ := s.sp.head_at
  rw [hA] at h2
  exact ⟨g, off, hA, h2, h3, h1⟩
end
theorem fd_of_own {w : World} {B B' : Nat} {f : Fa} {A : Option Addr} {n c : Nat} {A2 : Option Addr} {n2 c2 : Nat} {rows : List RV} {fp : Nat → Prop} (ov : OwnV w B (.slice A n c) n rows) (hm : rows.map (·.1) = f.rc.vers) (hc : n ≤ c)
    (o2 : w.ownsRow B' 3 1 (.slice A2 n2 c2) n2 (f.route.map (Value.int .i64))) (hc2 : n2 ≤ c2) (hn2 : n2 * 8 ≤ 140737488351232) (hr : rightF f = true) (h1 : ∀ i, B ≤ i → i < w.heap.size → fp i) (h2 : ∀ i, B' ≤ i → i < w.heap.size → fp i) : FaD w fp (f, (A, n, c), (A2, n2, c2)) := by
  obtain ⟨hrr, hr1⟩ := rightF_rec hr
  have hn1 : n = 1 := by have := ov.len; rw [← hm, List.length_map] at hr1; omega
  obtain ⟨k1, k2, _⟩ := rightR_true.1 hrr
  refine ⟨?_, hc, by show n * 64 ≤ _; omega, by show f.rc.key.size ≤ _; omega, SlF.of_own o2 h2, hc2, hn2, hr⟩
  rw [← hm]
  exact SlVF.of_own ov h1
end Go.Proofs.Ytilagblpamhmkaa
