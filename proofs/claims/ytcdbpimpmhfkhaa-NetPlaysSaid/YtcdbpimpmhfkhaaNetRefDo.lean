/-
  The document's network: Send, Copy, Look, gone.
-/
import Derived.Test.YtcdbpimpmhfkhaaNetRef
namespace Go.Proofs.Ytcdbpimpmhfkhaa
open Go.RowKit
set_option linter.unusedVariables false

section
variable {w w' : World} {fp fp' : Nat → Prop} {q : Nat} {l : List Pk} {cl : List K4} {c : Cnt}
/-- Behind the append and the store of a packet. -/
theorem RNet.push (h : RNet w fp q l cl c) {lv cv v3 : Value} {rows : List RPk} {w1 w3 : World} {p : Pk} {A1 : Option Addr} {n1 c1 : Nat} (hp : RParts w fp q l cl c lv cv rows) (b1 : Below w.heap.size w w1)
    (o1 : w1.ownsRow w.heap.size 5 1 (.slice A1 n1 c1) n1 (bsV p.d)) (hc1 : n1 ≤ c1) (hn1 : n1 ≤ tokMax) (hwf : p.wf)
    (own3 : w3.ownsRow 0 32 5 v3 (l.length + 1) (rows.flatMap pkV1 ++ pkC p A1 n1 c1)) (g3 : (w1.alloc (.cells #[.int .i64 p.fs, .int .i64 p.fn, .int .i64 p.ts, .int .i64 p.tn, .slice A1 n1 c1] 32)).grownBy w3 lv.ownBlock)
    (hv3 : v3.ownBlock = lv.ownBlock ∨ v3.ownBlock = some (w1.heap.size + 1)) :
    RNet (w3.setCell ⟨q, 0, none⟩ v3) (fpN w w3 fp) q (l ++ [p]) cl c ∧ w3.cell? ⟨q, 0, none⟩ = some lv ∧ (∀ j, w3.frozen? ⟨q, j, none⟩ = false) ∧ Fr fp w (w3.setCell ⟨q, 0, none⟩ v3) := by
  have hsz := b1.size
  have hF : Fr (fun b => lv.ownBlock = some b) w w3 := ((Fr.of_below b1).trans (Fr.alloc (fun _ => False) w1 _) (fun _ h => h.elim)).trans (Fr.of_grown g3) (fun i hi => .inl hi.symm)
  have ol := own_keep hp.2.1 (fp := fun b => b < w.heap.size) (fun g hg => (hp.2.1.lt g hg).2) (fun b o hb ho => (b1.block b hb).trans ho)
  have oa := o1.alloc (.cells #[.int .i64 p.fs, .int .i64 p.fn, .int .i64 p.ts, .int .i64 p.tn, .slice A1 n1 c1] 32)
  have o3 : w3.ownsRow w.heap.size 5 1 (.slice A1 n1 c1) n1 (bsV p.d) := by
    refine own_keep (fp := fun b => ∃ cs, (w1.alloc (.cells #[.int .i64 p.fs, .int .i64 p.fn, .int .i64 p.ts, .int .i64 p.tn, .slice A1 n1 c1] 32)).heap[b]? = some (.cells cs 5 (0, 0))) oa (fun g hg => own_tag oa hg) ?_
    rintro b o ⟨cs, hb⟩ ho
    refine Kept.grown (fp := fun b => ∃ cs, (w1.alloc (.cells #[.int .i64 p.fs, .int .i64 p.fn, .int .i64 p.ts, .int .i64 p.tn, .slice A1 n1 c1] 32)).heap[b]? = some (.cells cs 5 (0, 0))) g3 ?_ b o ⟨cs, hb⟩ ho
    rintro g hg ⟨cs', hg'⟩
    obtain ⟨cs2, h2⟩ := own_tag (ol.alloc (.cells #[.int .i64 p.fs, .int .i64 p.fn, .int .i64 p.ts, .int .i64 p.tn, .slice A1 n1 c1] 32)) hg
    exact tag_ne h2 hg' (by decide) rfl
  have hd : p.d.length ≤ tokMax := by have := SlB.len (Sl.of_own o3); omega
  refine h.relist (rows' := rows ++ [(p, A1, n1, c1)]) hp hF ?_ ?_ ?_ ?_
  · have e1 : (l ++ [p]).length = l.length + 1 := by simp
    have e2 : (rows ++ [((p, A1, n1, c1) : RPk)]).flatMap pkV1 = rows.flatMap pkV1 ++ pkC p A1 n1 c1 := by rw [List.flatMap_append]; simp [pkV1]
    rw [e1, e2]
    exact own3
  · intro g hg
    rcases hv3 with e | e
    · exact .inl (hp.2.2.1 g (by rw [← e]; exact hg))
    · rw [e] at hg
      injection hg with hg
      exact .inr (by omega)
  · rw [List.map_append, hp.2.2.2.1]; rfl
  · intro y hy
    rcases List.mem_append.1 hy with hy | hy
    · exact .inr (hp.2.2.2.2.1 y hy)
    · rw [List.mem_singleton.1 hy]
      exact .inl ⟨SlF.of_own o3 (fun i h1 h2 => .inr ⟨h1, h2⟩), hc1, hd, hwf⟩
theorem not_full {l : List Pk} {p : Pk} {c : Cnt} (h : l.length ≠ 4096) : addL l p = l ++ [p] ∧ sendC l c = { c with s := c.s + 1 } ∧ decide (l.length ≠ 4096) = true := ⟨if_neg h, if_neg h, decide_eq_true h⟩
theorem is_full {l : List Pk} {p : Pk} {c : Cnt} (h : l.length = 4096) : addL l p = l ∧ sendC l c = c ∧ decide (l.length ≠ 4096) = false := ⟨if_pos h, if_pos h, decide_eq_false (fun hh => hh h)⟩
set_option maxHeartbeats 4000000 in
theorem refSend_any (p : Pk) (A : Option Addr) (n k : Nat) (h : RNet w fp q l cl c) (hx : 0 ≤ c.s ∧ c.s < 8000000000000000000) (hl4 : l.length ≤ 4096) (hwf : p.wf) (hs : SlB w A n p.d) (hc : n ≤ k) (hn : n ≤ tokMax) :
    Calls Try.prog 31 #[.pointer (some ⟨q, 0, none⟩), .agg #[.int .i64 p.fs, .int .i64 p.fn, .int .i64 p.ts, .int .i64 p.tn, .slice A n k]] w (RTo w fp q (addL l p) cl (sendC l c) (.bool (decide (l.length ≠ 4096)))) := by
  obtain ⟨i0, hi, hz0, hz1, hz2⟩ := info_parts Try.infoPk
  have bA : Below w.heap.size w (w.alloc (.cells #[.int .i64 p.fs, .int .i64 p.fn, .int .i64 p.ts, .int .i64 p.tn, .slice A n k] 32)) := (Below.refl _ _).alloc (Nat.le_refl _) _
  have kb := heap_alloc_new w (.cells #[.int .i64 p.fs, .int .i64 p.fn, .int .i64 p.ts, .int .i64 p.tn, .slice A n k] 32)
  by_cases hf : l.length = 4096
  · obtain ⟨e1, e2, e3⟩ := is_full (p := p) (c := c) hf
    rw [e1, e2, e3]
    obtain ⟨A0, k0, c0, _⟩ := (h.below bA).len_
    have q1 : decide ((l.length : Int) ≥ 4096) = true := decide_eq_true (by omega)
    have q2 : decide ((4096 : Int) ≤ (l.length : Int)) = true := decide_eq_true (by omega)
    have H := Lib.hid h
    have HB := Lib.hid bA
    clear h hf hs hwf e1 e2 e3 bA kb
    go_enter Try.func31, Try.ntmps31
    go_wp2
    go_ret
    exact H.out.later HB.out
  · obtain ⟨e1, e2, e3⟩ := not_full (p := p) (c := c) hf
    rw [e1, e2, e3]
    obtain ⟨lv, cv, rows, hp⟩ := h.ex
    obtain ⟨A0, k0, rfl, _, _⟩ := own_slice hp.2.1
    have HC0 := Lib.hid (blk_cell (j := 0) hp.1 rfl)
    have hlq := h.lt _ h.inp
    have c0 := (bA.cell (World.block_lt_of_cell? w _ HC0.out)).trans HC0.out
    have q1 : decide ((l.length : Int) ≥ 4096) = false := decide_eq_false (by omega)
    have q2 : decide ((4096 : Int) ≤ (l.length : Int)) = false := decide_eq_false (by omega)
    have HO := Lib.hid (fun (W : World) (b : Below (w.alloc (.cells #[.int .i64 p.fs, .int .i64 p.fn, .int .i64 p.ts, .int .i64 p.tn, .slice A n k] 32)).heap.size (w.alloc (.cells #[.int .i64 p.fs, .int .i64 p.fn, .int .i64 p.ts, .int .i64 p.tn, .slice A n k] 32)) W) => refOwn_any p A n k W (Sl.below (Sl.alloc hs _) b) hc hn)
    have x0 := blk_cell (j := 0) kb rfl
    have x1 := blk_cell (j := 1) kb rfl
    have x2 := blk_cell (j := 2) kb rfl
    have x3 := blk_cell (j := 3) kb rfl
    have x4 := blk_cell (j := 4) kb rfl
    have HH := Lib.hid h
    have HP := Lib.hid hp
    have HWF := Lib.hid hwf
    have HBW := Lib.hid bA
    have HLQ := Lib.hid hlq
    have hl4 : l.length < 4096 := by omega
    have hw1 : IntKind.i64.wrap (c.s + 1) = c.s + 1 := IntWalk.i64_in _ (by omega)
    clear h hp hwf hf hs e1 e2 e3 bA kb
    go_enter Try.func31, Try.ntmps31
    go_wp2_with fail
    generalize hwb : w.alloc (.cells #[.int .i64 p.fs, .int .i64 p.fn, .int .i64 p.ts, .int .i64 p.tn, .slice A n k] 32) = wb at *
    clear hwb
    go_region_law (first
      | (go_simp; go_at_call 41; refine (HO.out _ (Below.refl _ _).drew).mono ?_; rintro e w1 ⟨A1, n1, c1, rfl, s1, hc1, hn1, o1, b1⟩; have b1w : Below w.heap.size w w1 := HBW.out.trans ((((Below.refl _ wb).drew).trans b1).mono HBW.out.size); have c0' := (b1w.cell (World.block_lt_of_cell? w _ HC0.out)).trans HC0.out; have hq1 : q < w1.heap.size := Nat.lt_of_lt_of_le HLQ.out b1w.size; have R2 := own_keep HP.out.2.1 (fp := fun b => b < w.heap.size) (fun g hg => (HP.out.2.1.lt g hg).2) (fun b o hb ho => (b1w.block b hb).trans ho); have HO1 := Lib.hid (And.intro b1w (And.intro (own_lower o1 (show w.heap.size ≤ wb.drew.heap.size from HBW.out.size)) (And.intro hc1 hn1))); have hsz1 := b1w.size; clear o1 s1 hc1 hn1 b1 b1w)
      | (refine step_append_sl rfl (.tmp 15) (.tmp 18) 22 rfl 0 32 i0 (.agg #[.int .i64 0, .int .i64 0, .int .i64 0, .int .i64 0, .slice none 0 0]) 5 56 Try.underlying22 hi hz0 hz1 hz2 rfl (by decide) (.slice A0 l.length k0) l.length (rows.flatMap pkV1) rfl (R2.alloc _) (some ⟨w1.heap.size, 0, none⟩) 1 1 (pkC p A1 n1 c1) rfl (sl_lit _ _ _ _ 1 5 _ rfl rfl rfl) (pkV1_one (p, A1, n1, c1)) (by unfold maxLen; omega) (by omega) (Nat.zero_le _) ?_; intro v3 w3 own3 g3 hv3; obtain ⟨A3, k3, rfl, -, -⟩ := own_slice own3; obtain ⟨h3, d0, d1, F3⟩ := HH.out.push (p := p) HP.out HO1.out.1 HO1.out.2.1 HO1.out.2.2.1 HO1.out.2.2.2 HWF.out own3 g3 (by simpa using hv3); have d2 := d1 0; have H3 := Lib.hid h3; have HF3 := Lib.hid F3; have hsz3 := g3.size; clear own3 g3 hv3 h3 F3 d1))
    all_goals
      obtain ⟨e2, e3, e4, e5⟩ := H3.out.cnt_
      have e6 := e5 2
      have HE := Lib.hid (H3.out.count (j := 2) (u := .int .i64 (c.s + 1)) (c' := { c with s := c.s + 1 }) (fun _ _ => rfl))
      clear e3 e4 e5
      go_wp2
      go_ret
      exact ⟨rfl, _, HE.out.1, HF3.out.trans HE.out.2 (fun i hi => hi.elim .inl (fun hh => .inr hh.1)), fun i hi => hi.elim .inl (fun hh => .inr hh.1)⟩
end
end Go.Proofs.Ytcdbpimpmhfkhaa
