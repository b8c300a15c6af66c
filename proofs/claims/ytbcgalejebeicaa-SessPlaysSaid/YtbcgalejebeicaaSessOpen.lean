/-
  Sessions: New, Open.
-/
import Derived.Test.YtbcgalejebeicaaSessBegin
namespace Go.Proofs.Ytbcgalejebeicaa
open Go.RowKit
set_option linter.unusedVariables false

theorem Try.infoSesPtr : (Try.prog.info? 65).map (fun i => (i.zero, i.size, i.bytes)) = some (some (.pointer none), 1, 8) := by kernel_rfl
theorem getElem?_snoc {α : Type} {l : List α} {x y : α} {i : Nat} (h : (l ++ [x])[i]? = some y) : (i < l.length ∧ l[i]? = some y) ∨ (i = l.length ∧ x = y) := by
  rw [List.getElem?_append] at h
  split at h
  · exact .inl ⟨by assumption, h⟩
  · have hi := (List.getElem?_eq_some_iff.1 h).1
    simp at hi
    have : i - l.length = 0 := by omega
    rw [this] at h
    simp at h
    exact .inr ⟨by omega, h⟩
section
variable {w w' : World} {fp : Nat → Prop} {G : SGeo} {sites : Int} {l : List Ses} {m : Nat}
/-- Open's end: the geometry may have turned. -/
def OpenAns (w : World) (fp : Nat → Prop) (G : SGeo) (sites : Int) (l : List Ses) (m : Nat) (s : Int) (e : Ending) (w' : World) : Prop :=
  e = .returned (.tuple #[.int .i64 (openA sites l s).1, .int .i64 (openA sites l s).2]) ∧ ∃ G' fp', G'.p = G.p ∧ SessG w' fp' G' sites (openL sites l s) m ∧ Fr fp w w' ∧ Grow w fp fp'

/-- Behind Open's append and store. -/
theorem SessG.open_ (h : SessG w fp G sites l m) (hl : l.length ≤ 4000000000000) {s : Int} {v3 : Value} {w3 : World} (own3 : w3.ownsRow 0 65 1 v3 (l.length + 1) (ptrsV G.gs ++ [.pointer (some ⟨w.heap.size, 0, none⟩)]))
    (g3 : ((w.alloc (.cells #[.int .i64 s, .slice none 0 0, .int .i64 0] 67)).alloc (.cells #[.pointer (some ⟨w.heap.size, 0, none⟩)] 65)).grownBy w3 G.lv.ownBlock)
    (hv3 : v3.ownBlock = G.lv.ownBlock ∨ v3.ownBlock = some (w.heap.size + 1 + 1)) :
    SessG (w3.setCell ⟨G.p, 1, none⟩ v3) (fun b => fp b ∨ w.heap.size ≤ b ∧ b < w3.heap.size) ⟨G.p, G.mb, v3, G.gs ++ [w.heap.size]⟩ sites (l ++ [⟨s, [], 0⟩]) m ∧
      w3.cell? ⟨G.p, 1, none⟩ = some G.lv ∧ w3.frozen? ⟨G.p, 1, none⟩ = false ∧ Fr fp w (w3.setCell ⟨G.p, 1, none⟩ v3) := by
  obtain ⟨D, hD, hA⟩ := h.map
  have hlp := h.lt _ h.inp
  have hrowt : ∀ b, G.lv.ownBlock = some b → ∃ cs, w.heap[b]? = some (.cells cs 65 (0, 0)) := fun b hb => own_tag h.row hb
  have hk2 : Kept (fun b => ∀ g, G.lv.ownBlock = some g → g ≠ b) w w3 := ((Kept.alloc _ w _).trans (Kept.alloc _ _ _)).trans (Kept.grown g3 fun g hg hh => hh g hg rfl)
  have hpr : ∀ g, G.lv.ownBlock = some g → g ≠ G.p := fun g hg => by obtain ⟨cs, hcs⟩ := hrowt g hg; exact tag_ne hcs h.top (by decide)
  have htop := hk2 _ _ hpr h.top
  have hsz3 : w.heap.size + 2 ≤ w3.heap.size := by have := g3.size; simp at this; omega
  have hkp : Kept (fun b => b ≠ G.p) w3 (w3.setCell ⟨G.p, 1, none⟩ v3) := Kept.set _ (fun hh => hh rfl)
  have hkall : Kept (fun b => (∀ g, G.lv.ownBlock = some g → g ≠ b) ∧ b ≠ G.p) w (w3.setCell ⟨G.p, 1, none⟩ v3) := (hk2.mono fun b hb => hb.1).trans (hkp.mono fun b hb => hb.2)
  have tagk : ∀ {b : Nat} {cs : Array Value} {t : TypeId}, w.heap[b]? = some (.cells cs t (0, 0)) → t ≠ 65 → t ≠ 63 → (w3.setCell ⟨G.p, 1, none⟩ v3).heap[b]? = some (.cells cs t (0, 0)) := by
    intro b cs t hb h1 h2
    exact hkall b _ ⟨fun g hg => by obtain ⟨cs', hcs'⟩ := hrowt g hg; exact tag_ne hcs' hb (Ne.symm h1), tag_ne hb h.top h2⟩ hb
  have hfr : Fr fp w (w3.setCell ⟨G.p, 1, none⟩ v3) := by
    have F1 : Fr fp w ((w.alloc (.cells #[.int .i64 s, .slice none 0 0, .int .i64 0] 67)).alloc (.cells #[.pointer (some ⟨w.heap.size, 0, none⟩)] 65)) := (Fr.alloc fp w _).trans (Fr.alloc fp _ _) (fun i hi => .inl hi)
    have F2 := F1.trans (Fr.of_grown g3) (fun i hi => .inl (h.inl i hi.symm))
    exact F2.trans (Fr.set w3 ⟨G.p, 1, none⟩ v3) (fun i hi => by subst hi; exact .inl h.inp)
  refine ⟨⟨.inl h.inp, .inl h.inm, ?_, ?_, ?_, ?_, ?_, ?_, ?_, h.asks.open_ rfl, ?_⟩, blk_cell htop rfl, blk_free htop 1, hfr⟩
  · rw [heap_setCell_same w3 G.p 1 _ _ v3 htop]; rfl
  · have e1 : (G.gs ++ [w.heap.size]).length = l.length + 1 := by rw [List.length_append, h.len]; rfl
    have e2 : ptrsV (G.gs ++ [w.heap.size]) = ptrsV G.gs ++ [.pointer (some ⟨w.heap.size, 0, none⟩)] := by simp [ptrsV]
    show World.ownsRow _ _ _ _ v3 (G.gs ++ [w.heap.size]).length (ptrsV (G.gs ++ [w.heap.size]))
    rw [e1, e2]
    refine own_keep own3 (fp := fun b => b ≠ G.p) (fun g hg => ?_) hkp
    obtain ⟨cs, hcs⟩ := own_tag own3 hg
    exact tag_ne hcs htop (by decide)
  · intro g hg
    rcases hv3 with e | e
    · exact .inl (h.inl g (by rw [← e]; exact hg))
    · have hlt := (own3.lt g hg).2
      rw [e] at hg
      injection hg with hg
      exact .inr ⟨by omega, hlt⟩
  · refine ⟨D, map_keep hD (fp := fun b => (∀ g, G.lv.ownBlock = some g → g ≠ b) ∧ b ≠ G.p) ⟨fun g hg => ?_, (map_ne h.top hD).symm⟩ hkall, hA.same (find_open h.asks rfl)⟩
    obtain ⟨cs, hcs⟩ := hrowt g hg
    exact map_ne hcs hD
  · refine List.nodup_append.2 ⟨h.nod, by simp, fun a ha b hb => ?_⟩
    simp only [List.mem_singleton] at hb
    subst hb
    obtain ⟨i, hi⟩ := List.getElem?_of_mem ha
    have hil := (List.getElem?_eq_some_iff.1 hi).1
    obtain ⟨_, _, _, hf, _⟩ := h.ses i a _ hi (List.getElem?_eq_getElem (by rw [← h.len]; exact hil))
    have := h.lt a hf
    omega
  · simp [h.len]
  · intro i g x hg hx
    rcases getElem?_snoc hg with ⟨_, hg'⟩ | ⟨hi, rfl⟩
    · rcases getElem?_snoc hx with ⟨_, hx'⟩ | ⟨hi, _⟩
      · obtain ⟨A, n, c, h1, h2, h3, h4⟩ := h.ses i g x hg' hx'
        exact ⟨A, n, c, .inl h1, tagk h2 (by decide) (by decide), (h3.keep fun b cs hb ho => tagk ho (by decide) (by decide)).mono (fun b _ hb => .inl hb), h4⟩
      · have := h.len
        omega
    · rcases getElem?_snoc hx with ⟨hi', _⟩ | ⟨_, rfl⟩
      · have := h.len
        omega
      · refine ⟨none, 0, 0, .inr ⟨Nat.le_refl _, by omega⟩, ?_, SlF.nil _ _ _ _ _, by rw [tokMax_eq]; exact Nat.zero_le _, by show (Lit.int .i64 0).wf = true; decide, Nat.le_refl _⟩
        have e1 : (w.alloc (.cells #[.int .i64 s, .slice none 0 0, .int .i64 0] 67)).heap[w.heap.size]? = some (.cells #[.int .i64 s, .slice none 0 0, .int .i64 0] 67 (0, 0)) := heap_alloc_new w _
        have e2 := (Kept.alloc (fun _ => True) _ (.cells #[.pointer (some ⟨w.heap.size, 0, none⟩)] 65)) _ _ trivial e1
        have e3 := (Kept.grown (fp := fun b => b = w.heap.size) g3 (fun g hg hh => by
          have := (h.row.lt g hg).2
          omega)) _ _ rfl e2
        exact hkp _ _ (by omega) e3
  · intro b hb
    rcases hb with hb | hb
    · have := h.lt b hb
      simp
      omega
    · simpa using hb.2
set_option maxHeartbeats 2000000 in
theorem open_any_ (s : Int) (h : SessG w fp G sites l m) (hl : l.length ≤ 4000000000000) :
    Calls Try.prog 8 #[.pointer (some ⟨G.p, 0, none⟩), .int .i64 s] w (OpenAns w fp G sites l m s) := by
  by_cases hs : 1 ≤ s ∧ s ≤ sites
  · have hA : openA sites l s = ((l.length : Int) + 1, 0) := by unfold openA; rw [if_pos hs]
    have hL : openL sites l s = l ++ [⟨s, [], 0⟩] := by unfold openL; rw [if_pos hs]
    obtain ⟨i0, hi, hz0, hz1, hz2⟩ := info_parts Try.infoSesPtr
    have C := Lib.hid (siteB_yes s h hs.1 hs.2)
    have c1 := blk_cell (j := 1) h.top rfl
    have f1 := blk_free h.top 1
    have hrow : w.ownsRow 0 65 1 G.lv l.length (ptrsV G.gs) := by have := h.row; rwa [h.len] at this
    have HE := Lib.hid (And.intro hA hL)
    have H := Lib.hid h
    clear h hA hL hs
    go_enter Try.func8, Try.ntmps8
    go_wp2_with fail
    refine C.out.mono ?_
    rintro e w' ⟨rfl, rfl⟩
    go_wp2_with (at_builtin; refine wpList_append_sl _ rfl (.tmp 14) (.tmp 18) 61 rfl (0) 65 i0 (.pointer none) 1 8 Try.underlying61 hi hz0 hz1 hz2 rfl (by decide) (G.lv) (l.length) (ptrsV G.gs) rfl ((hrow.alloc _).alloc _) (some ⟨w.heap.size + 1, 0, none⟩) (1) (1) ([.pointer (some ⟨w.heap.size, 0, none⟩)]) rfl (sl_lit _ _ _ _ 1 1 _ (by simp) rfl rfl) (lit_one rfl) (by unfold maxLen; omega) (by omega) (Nat.zero_le _) ?_)
    intro v3 w3 own3 g3 hv3
    obtain ⟨h3, c3, f3, F3⟩ := H.out.open_ hl own3 g3 hv3
    obtain ⟨A3, k3, rfl, hk3, _⟩ := own_slice own3
    have H3 := Lib.hid h3
    have F3' := Lib.hid F3
    clear own3 g3 hv3 hrow c1 f1 h3 F3 hk3
    go_wp2
    go_ret2
    refine ⟨by rw [HE.out.1]; rfl, ⟨G.p, G.mb, .slice A3 (l.length + 1) k3, G.gs ++ [w.heap.size]⟩, fun b => fp b ∨ w.heap.size ≤ b ∧ b < w3.heap.size, rfl, ?_, F3'.out, fun i hi => Or.imp id And.left hi⟩
    rw [HE.out.2]
    exact H3.out
  · have hA : openA sites l s = (0, 1) := by unfold openA; rw [if_neg hs]
    have hL : openL sites l s = l := by unfold openL; rw [if_neg hs]
    have C := Lib.hid (siteB_no s h hs)
    have HE := Lib.hid (And.intro hA hL)
    have H := Lib.hid h
    clear h hA hL hs
    go_enter Try.func8, Try.ntmps8
    go_wp2_with fail
    refine C.out.mono ?_
    rintro e w' ⟨rfl, rfl⟩
    go_wp2
    go_ret2
    refine ⟨by rw [HE.out.1]; rfl, G, fp, rfl, by rw [HE.out.2]; exact H.out, Fr.refl _ _, Grow.refl _ _⟩
end
end Go.Proofs.Ytbcgalejebeicaa
