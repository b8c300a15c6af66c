/-
  The document's network: Copy, Flip.
-/
import Derived.Test.YtcdbpimpmhfkhaaNetRefTake
import Derived.RegionTactic
namespace Go.Proofs.Ytcdbpimpmhfkhaa
open Go.RowKit
set_option linter.unusedVariables false

section
variable {w w' : World} {fp fp' : Nat → Prop} {q : Nat} {l : List Pk} {cl : List K4} {c : Cnt}
set_option maxHeartbeats 4000000 in
theorem refCopy_any (i : Int) (h : RNet w fp q l cl c) (hl4 : l.length ≤ 4096) :
    Calls Try.prog 34 #[.pointer (some ⟨q, 0, none⟩), .int .i64 i] w (RTo w fp q (copyL l i) cl c (.bool (copyB l i))) := by
  obtain ⟨i0, hi0, hz0, hz1, hz2⟩ := info_parts Try.infoPk
  have hi := hi0
  clear hi0
  have CL := Lib.hid (refLook_any i h)
  have HH := Lib.hid h
  rcases look_cases l i with ⟨hl, hi2⟩ | ⟨k, p, rfl, hk, hp, hl⟩
  · have e1 : copyL l i = l := by unfold copyL; rw [hl]
    have e2 : copyB l i = false := by unfold copyB; rw [hl]
    rw [e1, e2]
    rw [hl] at CL
    clear h hl hi2 e1 e2 hi
    go_enter Try.func34, Try.ntmps34
    go_wp2_with fail
    refine CL.out.mono ?_
    rintro e w1 ⟨A, n, k2, rfl, hd, b1⟩
    have HB := Lib.hid b1
    clear hd b1 CL
    go_wp2
    go_ret
    exact HH.out.later (HB.out.alloc HB.out.size _)
  · have e1 : copyL l (k : Int) = addL l p := by unfold copyL; rw [hl]
    have e2 : copyB l (k : Int) = decide (l.length ≠ 4096) := by unfold copyB; rw [hl]
    rw [e1, e2]
    rw [hl] at CL
    obtain ⟨lv, cv, rows, hp0⟩ := h.ex
    obtain ⟨A0, k0, rfl, _, _⟩ := own_slice hp0.2.1
    have HC0 := Lib.hid (blk_cell (j := 0) hp0.1 rfl)
    have HP := Lib.hid hp0
    have hlq := h.lt _ h.inp
    clear h hl e1 e2 hp0 hp
    by_cases hf : l.length = 4096
    · obtain ⟨e1, -, e3⟩ := is_full (p := p) (c := c) hf
      rw [e1, e3]
      have q1 : decide ((l.length : Int) ≥ 4096) = true := decide_eq_true (by omega)
      have q2 : decide ((4096 : Int) ≤ (l.length : Int)) = true := decide_eq_true (by omega)
      clear hf e1 e3 hi
      go_enter Try.func34, Try.ntmps34
      go_wp2_with fail
      refine CL.out.mono ?_
      rintro e wl ⟨A, n, k2, rfl, hd, b1⟩
      have c0 := (b1.cell (World.block_lt_of_cell? w _ HC0.out)).trans HC0.out
      have hq1 : q < wl.heap.size := Nat.lt_of_lt_of_le hlq b1.size
      have HB := Lib.hid b1
      clear hd b1 CL
      go_wp2
      go_ret
      exact HH.out.later (HB.out.alloc HB.out.size _)
    · obtain ⟨e1, -, e3⟩ := not_full (p := p) (c := c) hf
      rw [e1, e3]
      have q1 : decide ((l.length : Int) ≥ 4096) = false := decide_eq_false (by omega)
      have q2 : decide ((4096 : Int) ≤ (l.length : Int)) = false := decide_eq_false (by omega)
      have hl4 : l.length < 4096 := by omega
      have HLQ := Lib.hid hlq
      clear hf e1 e3
      go_enter Try.func34, Try.ntmps34
      go_wp2_with fail
      refine CL.out.mono ?_
      rintro e wl ⟨A, n, k2, rfl, hd, b1⟩
      simp only [Option.getD_some] at hd ⊢
      have bA := b1.alloc b1.size (.cells #[.int .i64 p.fs, .int .i64 p.fn, .int .i64 p.ts, .int .i64 p.tn, .slice A n k2] 32)
      have kb := heap_alloc_new wl (.cells #[.int .i64 p.fs, .int .i64 p.fn, .int .i64 p.ts, .int .i64 p.tn, .slice A n k2] 32)
      have c0 := (bA.cell (World.block_lt_of_cell? w _ HC0.out)).trans HC0.out
      have hs : SlB wl A n p.d := hd.1.1
      have hnn : n ≤ tokMax := by have e5 := SlB.len hs; have := hd.2.2.1; simp only at this; omega
      have HO := Lib.hid (fun (W : World) (b : Below (wl.alloc (.cells #[.int .i64 p.fs, .int .i64 p.fn, .int .i64 p.ts, .int .i64 p.tn, .slice A n k2] 32)).heap.size (wl.alloc (.cells #[.int .i64 p.fs, .int .i64 p.fn, .int .i64 p.ts, .int .i64 p.tn, .slice A n k2] 32)) W) => refOwn_any p A n k2 W (Sl.below (Sl.alloc hs _) b) hd.2.1 hnn)
      have HWF := Lib.hid hd.2.2.2
      simp only at HWF
      have x0 := blk_cell (j := 0) kb rfl
      have x1 := blk_cell (j := 1) kb rfl
      have x2 := blk_cell (j := 2) kb rfl
      have x3 := blk_cell (j := 3) kb rfl
      have x4 := blk_cell (j := 4) kb rfl
      have HBW := Lib.hid bA
      have hq1 : q < wl.heap.size := Nat.lt_of_lt_of_le hlq b1.size
      have c00 := (b1.cell (World.block_lt_of_cell? w _ HC0.out)).trans HC0.out
      clear hd b1 bA kb hs hnn CL
      go_wp2_with fail
      generalize hwb : wl.alloc (.cells #[.int .i64 p.fs, .int .i64 p.fn, .int .i64 p.ts, .int .i64 p.tn, .slice A n k2] 32) = wb at *
      clear hwb c00 hq1
      go_region_law (first
        | (go_simp; go_at_call 41; refine (HO.out _ (Below.refl _ _).drew).mono ?_; rintro e w1 ⟨A1, n1, c1, rfl, s1, hc1, hn1, o1, b1⟩; have b1w : Below w.heap.size w w1 := HBW.out.trans ((((Below.refl _ wb).drew).trans b1).mono HBW.out.size); have c0' := (b1w.cell (World.block_lt_of_cell? w _ HC0.out)).trans HC0.out; have hq1 : q < w1.heap.size := Nat.lt_of_lt_of_le HLQ.out b1w.size; have R2 := own_keep HP.out.2.1 (fp := fun b => b < w.heap.size) (fun g hg => (HP.out.2.1.lt g hg).2) (fun b o hb ho => (b1w.block b hb).trans ho); have HO1 := Lib.hid (And.intro b1w (And.intro (own_lower o1 (show w.heap.size ≤ wb.drew.heap.size from HBW.out.size)) (And.intro hc1 hn1))); have hsz1 := b1w.size; clear o1 s1 hc1 hn1 b1 b1w)
        | (refine step_append_sl rfl (.tmp 27) (.tmp 30) 22 rfl 0 32 i0 (.agg #[.int .i64 0, .int .i64 0, .int .i64 0, .int .i64 0, .slice none 0 0]) 5 56 Try.underlying22 hi hz0 hz1 hz2 rfl (by decide) (.slice A0 l.length k0) l.length (rows.flatMap pkV1) rfl (R2.alloc _) (some ⟨w1.heap.size, 0, none⟩) 1 1 (pkC p A1 n1 c1) rfl (sl_lit _ _ _ _ 1 5 _ rfl rfl rfl) (pkV1_one (p, A1, n1, c1)) (by unfold maxLen; omega) (by omega) (Nat.zero_le _) ?_; intro v3 w3 own3 g3 hv3; obtain ⟨A3, k3, rfl, -, -⟩ := own_slice own3; obtain ⟨h3, d0, d1, F3⟩ := HH.out.push (p := p) HP.out HO1.out.1 HO1.out.2.1 HO1.out.2.2.1 HO1.out.2.2.2 HWF.out own3 g3 (by simpa using hv3); have d2 := d1 0; have H3 := Lib.hid h3; have HF3 := Lib.hid F3; have hsz3 := g3.size; clear own3 g3 hv3 h3 F3 d1))
      all_goals
        go_wp2
        go_ret
        exact ⟨rfl, _, H3.out, HF3.out, fun i hi => hi.elim .inl (fun hh => .inr hh.1)⟩
theorem set_same {α : Type} {xs : List α} {j : Nat} {u : α} (h : xs[j]? = some u) : xs.set j u = xs := by
  apply List.ext_getElem?
  intro i
  rw [List.getElem?_set]
  split
  · rename_i e
    subst e
    split
    · exact h.symm
    · rename_i hn
      rw [List.getElem?_eq_none (by omega)]
  · rfl
/-- A packet of the list is written anew. -/
theorem RNet.setAt (h : RNet w fp q l cl c) {ex : Nat → Prop} {lv cv : Value} {rows : List RPk} (hp : RParts w fp q l cl c lv cv rows) {k g cc : Nat} {y : RPk} (hy : rows[k]? = some y) (hlv : lv = .slice (some ⟨g, 0, none⟩) l.length cc) {p' : Pk} {A : Option Addr} {n k2 : Nat}
    (he : p'.fs = y.1.fs ∧ p'.fn = y.1.fn ∧ p'.ts = y.1.ts ∧ p'.tn = y.1.tn) (hx : ∀ b, ex b → b < w.heap.size) (hd : PkD w (fun b => fp b ∨ ex b) (p', A, n, k2)) :
    RNet (((((w.setCell ⟨g, k * 5, none⟩ (.int .i64 p'.fs)).setCell ⟨g, k * 5 + 1, none⟩ (.int .i64 p'.fn)).setCell ⟨g, k * 5 + 2, none⟩ (.int .i64 p'.ts)).setCell ⟨g, k * 5 + 3, none⟩ (.int .i64 p'.tn)).setCell ⟨g, k * 5 + 4, none⟩ (.slice A n k2)) (fun b => fp b ∨ ex b) q (l.set k p') cl c ∧
      Fr fp w (((((w.setCell ⟨g, k * 5, none⟩ (.int .i64 p'.fs)).setCell ⟨g, k * 5 + 1, none⟩ (.int .i64 p'.fn)).setCell ⟨g, k * 5 + 2, none⟩ (.int .i64 p'.ts)).setCell ⟨g, k * 5 + 3, none⟩ (.int .i64 p'.tn)).setCell ⟨g, k * 5 + 4, none⟩ (.slice A n k2)) := by
  subst hlv
  obtain ⟨h1, h2, h3, h4, h5, h6, h7⟩ := hp
  obtain ⟨e1, e2, e3, e4⟩ := he
  have hfg := h3 g rfl
  obtain ⟨cs, hcs⟩ := own_tag h2 (g := g) rfl
  have hf := fun r (hr : r < 5) => flat_at pkV1_len rows k r y hy hr
  have s0 := (h2.stored (k * 5) (.int .i64 p'.fs)).1
  rw [set_same (by rw [e1]; exact hf 0 (by omega))] at s0
  have s1 := (s0.stored (k * 5 + 1) (.int .i64 p'.fn)).1
  rw [set_same (by rw [e2]; exact hf 1 (by omega))] at s1
  have s2 := (s1.stored (k * 5 + 2) (.int .i64 p'.ts)).1
  rw [set_same (by rw [e3]; exact hf 2 (by omega))] at s2
  have s3 := (s2.stored (k * 5 + 3) (.int .i64 p'.tn)).1
  rw [set_same (by rw [e4]; exact hf 3 (by omega))] at s3
  have s4 := (s3.stored (k * 5 + 4) (.slice A n k2)).1
  rw [flat_set pkV1_len rows k 4 y (p', A, n, k2) (.slice A n k2) hy (by omega) (by simp [pkV1, pkC, e1, e2, e3, e4])] at s4
  have F : Fr (fun i => i = g) w (((((w.setCell ⟨g, k * 5, none⟩ (.int .i64 p'.fs)).setCell ⟨g, k * 5 + 1, none⟩ (.int .i64 p'.fn)).setCell ⟨g, k * 5 + 2, none⟩ (.int .i64 p'.ts)).setCell ⟨g, k * 5 + 3, none⟩ (.int .i64 p'.tn)).setCell ⟨g, k * 5 + 4, none⟩ (.slice A n k2)) :=
    ((((Fr.set w ⟨g, k * 5, none⟩ _).trans (Fr.set _ ⟨g, k * 5 + 1, none⟩ _) (fun _ h => .inl h)).trans (Fr.set _ ⟨g, k * 5 + 2, none⟩ _) (fun _ h => .inl h)).trans (Fr.set _ ⟨g, k * 5 + 3, none⟩ _) (fun _ h => .inl h)).trans (Fr.set _ ⟨g, k * 5 + 4, none⟩ _) (fun _ h => .inl h)
  have hk : Kept (fun b => b ≠ g) w _ := F.kept fun i hi hi' => hi hi'
  have tag : ∀ {b : Nat} {cs' : Array Value} {t : TypeId}, t ≠ 32 → w.heap[b]? = some (.cells cs' t (0, 0)) → b ≠ g := fun ht hb => tag_ne hb hcs ht
  refine ⟨⟨.inl h.inp, ⟨_, cv, rows.set k (p', A, n, k2), hk _ _ (tag (by decide) h1) h1, by rw [List.length_set]; exact s4, fun g' hg' => .inl (h3 g' hg'), by rw [List.map_set, h4], ?_, ?_, fun g' hg' => .inl (h7 g' hg')⟩, ?_⟩, F.mono fun i hi => .inl (by have hi2 : i = g := hi; rw [hi2]; exact hfg)⟩
  · intro v hv
    rcases List.mem_or_eq_of_mem_set hv with hv | rfl
    · exact ⟨((h5 v hv).1.keep fun b cs' _ ho => hk b _ (tag (by decide) ho) ho).mono (fun b _ hb => .inl hb), (h5 v hv).2⟩
    · exact ⟨hd.1.keep fun b cs' _ ho => hk b _ (tag (by decide) ho) ho, hd.2⟩
  · exact own_keep h6 (fp := fun b => b ≠ g) (fun g' hg' => by obtain ⟨cs', hcs'⟩ := own_tag h6 hg'; exact tag (by decide) hcs') hk
  · intro b hb
    have hsz := F.size
    rcases hb with hb | hb
    · have := h.lt b hb; omega
    · have := hx b hb; omega
end
end Go.Proofs.Ytcdbpimpmhfkhaa
