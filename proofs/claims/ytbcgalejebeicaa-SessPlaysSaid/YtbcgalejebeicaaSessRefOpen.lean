/-
  The document's sessions: Open.
-/
import Derived.Test.YtbcgalejebeicaaSessRefEnd
namespace Go.Proofs.Ytbcgalejebeicaa
open Go.RowKit
set_option linter.unusedVariables false

section
variable {w w' : World} {fp fp' : Nat → Prop} {p : Nat} {sites : Int} {l : List Ses}
/-- Behind Open's append and store. -/
theorem RefG.open_ (h : RefG w fp p sites l) {lv v3 : Value} {s : Int} {w3 : World} {rows : List RSes} (h1 : w.heap[p]? = some (.cells #[.int .i64 sites, lv] 45 (0, 0))) (h2 : w.ownsRow 0 58 3 lv l.length (rows.flatMap rsV1)) (h3 : ∀ g, lv.ownBlock = some g → fp g)
    (h4 : rows.map (·.1) = l) (h5 : ∀ y : RSes, y ∈ rows → SlF w fp 5 y.2.1 y.2.2.1 1 (bsV y.1.tok) ∧ y.2.2.1 ≤ y.2.2.2 ∧ y.1.tok.length ≤ tokMax)
    (own3 : w3.ownsRow 0 58 3 v3 (l.length + 1) (rows.flatMap rsV1 ++ [.int .i64 s, .slice none 0 0, .int .i64 0]))
    (g3 : (w.alloc (.cells #[.int .i64 s, .slice none 0 0, .int .i64 0] 58)).grownBy w3 lv.ownBlock) (hv3 : v3.ownBlock = lv.ownBlock ∨ v3.ownBlock = some (w.heap.size + 1)) :
    RefG (w3.setCell ⟨p, 1, none⟩ v3) (fun b => fp b ∨ w.heap.size ≤ b ∧ b < w3.heap.size) p sites (l ++ [⟨s, [], 0⟩]) ∧ w3.cell? ⟨p, 1, none⟩ = some lv ∧ w3.frozen? ⟨p, 1, none⟩ = false ∧ Fr fp w (w3.setCell ⟨p, 1, none⟩ v3) := by
  have hlp := h.lt _ h.inp
  have hk2 : Kept (fun b => ∀ g, lv.ownBlock = some g → g ≠ b) w w3 := (Kept.alloc _ w _).trans (Kept.grown g3 fun g hg hh => hh g hg rfl)
  have hrowt : ∀ b, lv.ownBlock = some b → ∃ cs, w.heap[b]? = some (.cells cs 58 (0, 0)) := fun b hb => own_tag h2 hb
  have hpr : ∀ g, lv.ownBlock = some g → g ≠ p := fun g hg => by obtain ⟨cs, hcs⟩ := hrowt g hg; exact tag_ne hcs h1 (by decide)
  have htop := hk2 _ _ hpr h1
  have hsz3 : w.heap.size + 1 ≤ w3.heap.size := by have := g3.size; simp at this; omega
  have hkp : Kept (fun b => b ≠ p) w3 (w3.setCell ⟨p, 1, none⟩ v3) := Kept.set _ (fun hh => hh rfl)
  have tagk : ∀ {b : Nat} {cs : Array Value}, w.heap[b]? = some (.cells cs 5 (0, 0)) → (w3.setCell ⟨p, 1, none⟩ v3).heap[b]? = some (.cells cs 5 (0, 0)) := by
    intro b cs hb
    exact hkp b _ (tag_ne hb h1 (by decide)) (hk2 b _ (fun g hg => by obtain ⟨cs', hcs'⟩ := hrowt g hg; exact tag_ne hcs' hb (by decide)) hb)
  have hfr : Fr fp w (w3.setCell ⟨p, 1, none⟩ v3) :=
    ((Fr.alloc fp w _).trans (Fr.of_grown g3) (fun i hi => .inl (h3 i hi.symm))).trans (Fr.set w3 ⟨p, 1, none⟩ v3) (fun i hi => by subst hi; exact .inl h.inp)
  refine ⟨⟨.inl h.inp, ⟨v3, rows ++ [(⟨s, [], 0⟩, none, 0, 0)], ?_, ?_, ?_, ?_, ?_⟩, h.asks.open_ rfl, ?_⟩, blk_cell htop rfl, blk_free htop 1, hfr⟩
  · rw [heap_setCell_same w3 p 1 _ _ v3 htop]; rfl
  · have e1 : (l ++ [(⟨s, [], 0⟩ : Ses)]).length = l.length + 1 := by simp
    have e2 : (rows ++ [((⟨s, [], 0⟩, none, 0, 0) : RSes)]).flatMap rsV1 = rows.flatMap rsV1 ++ [.int .i64 s, .slice none 0 0, .int .i64 0] := by rw [List.flatMap_append]; rfl
    rw [e1, e2]
    refine own_keep own3 (fp := fun b => b ≠ p) (fun g hg => ?_) hkp
    obtain ⟨cs, hcs⟩ := own_tag own3 hg
    exact tag_ne hcs htop (by decide)
  · intro g hg
    rcases hv3 with e | e
    · exact .inl (h3 g (by rw [← e]; exact hg))
    · have hlt := (own3.lt g hg).2
      rw [e] at hg
      injection hg with hg
      exact .inr ⟨by omega, hlt⟩
  · rw [List.map_append, h4]; rfl
  · intro y hy
    rcases List.mem_append.1 hy with hy | hy
    · obtain ⟨t1, t2, t3⟩ := h5 y hy
      exact ⟨(t1.keep fun b cs hb ho => tagk ho).mono (fun b _ hb => .inl hb), t2, t3⟩
    · obtain rfl := List.mem_singleton.1 hy
      exact ⟨SlF.nil _ _ _ _ _, Nat.le_refl _, by rw [tokMax_eq]; exact Nat.zero_le _⟩
  · intro b hb
    rcases hb with hb | hb
    · have := h.lt b hb
      simp
      omega
    · simpa using hb.2
set_option maxHeartbeats 2000000 in
theorem refOpen_any (s : Int) (h : RefG w fp p sites l) (hl : l.length ≤ 3000000000000) :
    Calls Try.prog 14 #[.pointer (some ⟨p, 0, none⟩), .int .i64 s] w (RefTo w fp p sites (openL sites l s) (.tuple #[.int .i64 (openA sites l s).1, .int .i64 (openA sites l s).2])) := by
  have c0 := h.sites_
  by_cases hs : 1 ≤ s ∧ s ≤ sites
  · have hA : openA sites l s = ((l.length : Int) + 1, 0) := by unfold openA; rw [if_pos hs]
    have hL : openL sites l s = l ++ [⟨s, [], 0⟩] := by unfold openL; rw [if_pos hs]
    obtain ⟨i0, hi, hz0, hz1, hz2⟩ := info_parts Try.infoRefSes
    obtain ⟨lv, rows, h1, h2, h3, h4, h5⟩ := h.ex
    have c1 := blk_cell (j := 1) h1 rfl
    have f1 := blk_free h1 1
    obtain ⟨s1, s2⟩ := hs
    have hs2 : decide (sites < s) = false := by simp; omega
    have H := Lib.hid (And.intro h (And.intro h1 (And.intro h2 (And.intro h3 (And.intro h4 h5)))))
    rw [hA, hL]
    clear h hA hL h1 h3 h4 h5
    go_enter Try.func14, Try.ntmps14
    go_wp2_with (at_builtin; refine wpList_append_sl _ rfl (.tmp 20) (.tmp 23) 43 rfl (0) 58 i0 (.agg #[.int .i64 0, .slice none 0 0, .int .i64 0]) 3 40 Try.underlying43 hi hz0 hz1 hz2 rfl (by decide) (lv) (l.length) (rows.flatMap rsV1) rfl (h2.alloc _) (some ⟨w.heap.size, 0, none⟩) (1) (1) ([.int .i64 s, .slice none 0 0, .int .i64 0]) rfl (sl_lit _ _ _ _ 1 3 _ rfl rfl rfl) (lit_one rfl) (by unfold maxLen; omega) (by omega) (Nat.zero_le _) ?_)
    intro v3 w3 own3 g3 hv3
    obtain ⟨q0, q1, q2, q3, q4, q5⟩ := H.out
    obtain ⟨h3, c3, f3, F3⟩ := q0.open_ q1 q2 q3 q4 q5 own3 g3 hv3
    obtain ⟨A3, k3, rfl, hk3, _⟩ := own_slice own3
    have H3 := Lib.hid h3
    have F3' := Lib.hid F3
    clear own3 g3 hv3 h2 c1 f1 h3 F3 hk3 q0 q1 q2 q3 q4 q5
    go_wp2
    go_ret2
    exact ⟨rfl, fun b => fp b ∨ w.heap.size ≤ b ∧ b < w3.heap.size, H3.out, F3'.out, fun i hi => Or.imp id And.left hi⟩
  · have hA : openA sites l s = (0, 1) := by unfold openA; rw [if_neg hs]
    have hL : openL sites l s = l := by unfold openL; rw [if_neg hs]
    have H := Lib.hid h
    rw [hA, hL]
    clear h hA hL
    by_cases s1 : s < 1
    · clear hs
      go_enter Try.func14, Try.ntmps14
      go_wp2
      go_ret2
      exact H.out.same
    · have s2 : decide (sites < s) = true := by simp; omega
      clear hs
      go_enter Try.func14, Try.ntmps14
      go_wp2
      go_ret2
      exact H.out.same
end
end Go.Proofs.Ytbcgalejebeicaa
