/-
  The document's network: Lose, Take.
-/
import Derived.Test.YtcdbpimpmhfkhaaNetRefCut
namespace Go.Proofs.Ytcdbpimpmhfkhaa
open Go.RowKit
set_option linter.unusedVariables false

section
variable {w w' : World} {fp fp' : Nat → Prop} {q : Nat} {l : List Pk} {cl : List K4} {c : Cnt}
theorem RTo.from_ {w1 : World} {v : Value} {e : Ending} (hb : Below w.heap.size w w1) (h : RTo w1 fp q l cl c v e w') : RTo w fp q l cl c v e w' := by
  obtain ⟨he, fp', h1, h2, h3⟩ := h
  exact ⟨he, fp', h1, (Fr.of_below (fp := fp) hb).trans h2 (fun i hi => .inl hi), fun i hi => (h3 i hi).elim .inl (fun hh => .inr (Nat.le_trans hb.size hh))⟩
set_option maxHeartbeats 4000000 in
theorem refLose_any (i : Int) (h : RNet w fp q l cl c) (hx : 0 ≤ c.x ∧ c.x < 8000000000000000000) (hl4 : l.length ≤ 4096) :
    Calls Try.prog 33 #[.pointer (some ⟨q, 0, none⟩), .int .i64 i] w (RTo w fp q (loseL l i) cl (loseC l i c) (.bool (lookP l i).isSome)) := by
  have C := Lib.hid (refLook_any i h)
  have HH := Lib.hid h
  rcases look_cases l i with ⟨hl, hi⟩ | ⟨k, p, rfl, hk, hp, hl⟩
  · have e1 : loseL l i = l := by unfold loseL; rw [hl]; rfl
    have e2 : loseC l i c = c := by unfold loseC; rw [hl]; rfl
    rw [e1, e2]
    rw [hl] at C ⊢
    clear h hl hi e1 e2
    go_enter Try.func33, Try.ntmps33
    go_wp2_with fail
    refine C.out.mono ?_
    rintro e w1 ⟨A, n, k2, rfl, hd, b1⟩
    have HB := Lib.hid b1
    clear hd b1 C
    go_wp2
    go_ret
    exact HH.out.later (HB.out.alloc HB.out.size _)
  · have e1 : loseL l (k : Int) = l.eraseIdx k := by unfold loseL; rw [hl]; rfl
    have e2 : loseC l (k : Int) c = { c with x := c.x + 1 } := by unfold loseC; rw [hl]; rfl
    rw [e1, e2]
    rw [hl] at C ⊢
    have hw1 : IntKind.i64.wrap (c.x + 1) = c.x + 1 := IntWalk.i64_in _ (by omega)
    clear h hl hp e1 e2
    go_enter Try.func33, Try.ntmps33
    go_wp2_with fail
    refine C.out.mono ?_
    rintro e w1 ⟨A, n, k2, rfl, hd, b1⟩
    simp only [Option.getD_some]
    have bA := b1.alloc b1.size (.cells #[.int .i64 p.fs, .int .i64 p.fn, .int .i64 p.ts, .int .i64 p.tn, .slice A n k2] 32)
    have C2 := Lib.hid (refGone_any k (HH.out.below bA) hk hl4)
    have HB := Lib.hid bA
    clear hd b1 C bA
    go_wp2_with fail
    refine C2.out.mono ?_
    rintro e w3 ⟨⟨rfl, fp', h3, F3, G3⟩, -⟩
    obtain ⟨d2, d3, d4, d5⟩ := h3.cnt_
    have d6 := d5 4
    have HE := Lib.hid (h3.count (j := 4) (u := .int .i64 (c.x + 1)) (c' := { c with x := c.x + 1 }) (fun _ _ => rfl))
    have HF := Lib.hid (And.intro F3 G3)
    clear d2 d3 d5 h3 F3 G3 C2
    go_wp2
    go_ret
    exact RTo.from_ HB.out ⟨rfl, fp', HE.out.1, HF.out.1.trans HE.out.2 HF.out.2, HF.out.2⟩
/-- What Take leaves: what it tells is read as p, too. -/
def RTake (w : World) (fp : Nat → Prop) (q : Nat) (l : List Pk) (cl : List K4) (c : Cnt) (p : Pk) (b : Bool) (e : Ending) (w' : World) : Prop :=
  ∃ A n k, e = .returned (.tuple #[.agg #[.int .i64 p.fs, .int .i64 p.fn, .int .i64 p.ts, .int .i64 p.tn, .slice A n k], .bool b]) ∧ SlB w' A n p.d ∧ ∃ fp', RNet w' fp' q l cl c ∧ Fr fp w w' ∧ Grow w fp fp'
/-- A block of the call's own is written. -/
theorem RNet.mine {g : Nat} {v0 v1 v2 v3 v4 : Value} (h : RNet w fp q l cl c) (hg : ¬ fp g) : RNet (set5 w g v0 v1 v2 v3 v4) fp q l cl c := h.kept (set5_fr.kept fun i hi hi' => hg (by rw [hi'] at hi; exact hi)) set5_fr.size
set_option maxHeartbeats 4000000 in
theorem refTake_any (i : Int) (C : K4 → Bool) (hC : ∀ a b x y, partedL cl a b x y = C (pairK a b x y)) (h : RNet w fp q l cl c) (hx : 0 ≤ c.x ∧ c.x < 8000000000000000000) (ht : 0 ≤ c.t ∧ c.t < 8000000000000000000) (hl4 : l.length ≤ 4096) :
    Calls Try.prog 32 #[.pointer (some ⟨q, 0, none⟩), .int .i64 i] w (RTake w fp q (loseL l i) cl (takeC C l i c) (takeP C l i) (takeB C l i)) := by
  have bR : Below w.heap.size w (w.alloc (.cells #[.int .i64 0, .int .i64 0, .int .i64 0, .int .i64 0, .slice none 0 0] 32)) := (Below.refl _ _).alloc (Nat.le_refl _) _
  have kR := heap_alloc_new w (.cells #[.int .i64 0, .int .i64 0, .int .i64 0, .int .i64 0, .slice none 0 0] 32)
  have CL := Lib.hid (refLook_any i (h.below bR))
  have HH := Lib.hid h
  have hlq := h.lt _ h.inp
  have HR := Lib.hid (And.intro bR kR)
  have HLT := Lib.hid h.lt
  rcases look_cases l i with ⟨hl, hi⟩ | ⟨k, p, rfl, hk, hp, hl⟩
  · have e1 : loseL l i = l := by unfold loseL; rw [hl]; rfl
    have e2 : takeC C l i c = c := by unfold takeC; rw [hl]
    have e3 : takeP C l i = zeroPk := by unfold takeP; rw [hl]
    have e4 : takeB C l i = false := by unfold takeB; rw [hl]
    rw [e1, e2, e3, e4]
    rw [hl] at CL
    clear h hl hi e1 e2 e3 e4 bR kR hC
    go_enter Try.func32, Try.ntmps32
    go_wp2_with fail
    refine CL.out.mono ?_
    rintro e w1 ⟨A, n, k2, rfl, hd, b1⟩
    simp only [Option.getD_none, zeroPk]
    have kw := (b1.block _ (lt_of_block HR.out.2)).trans HR.out.2
    have hlw := lt_of_block kw
    have HK := Lib.hid kw
    have x0 := blk_cell (j := 0) kw rfl
    have x1 := blk_cell (j := 1) kw rfl
    have x2 := blk_cell (j := 2) kw rfl
    have x3 := blk_cell (j := 3) kw rfl
    have x4 := blk_cell (j := 4) kw rfl
    have f0 := blk_free kw 0
    have f1 := blk_free kw 1
    have f2 := blk_free kw 2
    have f3 := blk_free kw 3
    have f4 := blk_free kw 4
    have HB := Lib.hid (HR.out.1.trans (b1.mono HR.out.1.size))
    have HD := Lib.hid hd
    clear hd b1 CL kw
    go_wp2
    refine bodyPost_ret (results_cell_row_tmp rfl _ _ w.heap.size 32 #[.int .i64 0, .int .i64 0, .int .i64 0, .int .i64 0, .slice A n k2] (0, 0) _ rfl ((Below.heap_alloc _ _ _ (Nat.lt_of_lt_of_le hlw (Fr.size set5_fr))).trans (set5_heap HK.out)) Try.underlying32 rfl Try.infoPkSize) rfl ?_
    have bz := fun (o : Obj) => ((HB.out.trans (Fr.below (B := w.heap.size) (set5_fr (w := w1) (g := w.heap.size) (v0 := .int .i64 0) (v1 := .int .i64 0) (v2 := .int .i64 0) (v3 := .int .i64 0) (v4 := .slice A n k2)) (fun i hi => by omega) HB.out.size)).alloc (by have := (set5_fr (w := w1) (g := w.heap.size) (v0 := .int .i64 0) (v1 := .int .i64 0) (v2 := .int .i64 0) (v3 := .int .i64 0) (v4 := .slice A n k2)).size; have := HB.out.size; omega) o)
    have hn : n = 0 := by have := SlB.len (show SlB w1 A n zeroPk.d from HD.out.1.1); simpa [zeroPk] using this.symm
    refine ⟨A, n, k2, rfl, ?_, fp, HH.out.below (bz _), Fr.of_below (bz _), Grow.refl _ _⟩
    rw [hn]
    exact Sl.nil _ _ _
  · have e1 : loseL l (k : Int) = l.eraseIdx k := by unfold loseL; rw [hl]; rfl
    rw [e1]
    have HL := Lib.hid hl
    rw [hl] at CL
    clear h hp e1 bR kR hl
    go_enter Try.func32, Try.ntmps32
    go_wp2_with fail
    refine CL.out.mono ?_
    rintro e w1 ⟨A, n, k2, rfl, hd, b1⟩
    simp only [Option.getD_some] at hd ⊢
    have kw := (b1.block _ (lt_of_block HR.out.2)).trans HR.out.2
    have bw := HR.out.1.trans (b1.mono HR.out.1.size)
    have hs1 := bw.size
    have bA := (Below.refl w1.heap.size w1).alloc (Nat.le_refl _) (.cells #[.int .i64 p.fs, .int .i64 p.fn, .int .i64 p.ts, .int .i64 p.tn, .slice A n k2] 32)
    have kP := heap_alloc_new w1 (.cells #[.int .i64 p.fs, .int .i64 p.fn, .int .i64 p.ts, .int .i64 p.tn, .slice A n k2] 32)
    have C2 := Lib.hid (refGone_any k ((HH.out.below bw).below bA) hk hl4)
    have HW := Lib.hid (And.intro (bw.trans (bA.mono hs1)) (And.intro ((bA.block _ (lt_of_block kw)).trans kw) kP))
    have HD := Lib.hid (hd.keep8 (Keep8.below bA))
    have hsA : (w1.alloc (.cells #[.int .i64 p.fs, .int .i64 p.fn, .int .i64 p.ts, .int .i64 p.tn, .slice A n k2] 32)).heap.size = w1.heap.size + 1 := by simp
    have HSA := Lib.hid hsA
    have hlw := lt_of_block kw
    clear hd b1 CL kw bw bA kP hsA
    go_wp2_with fail
    refine C2.out.mono ?_
    rintro e w3 ⟨⟨rfl, fp', h3, F3, G3⟩, k8⟩
    have kw3 := (F3.block _ (lt_of_block HW.out.2.1) (fun hh => by have := HLT.out _ hh; omega)).trans HW.out.2.1
    have kP3 := (F3.block _ (lt_of_block HW.out.2.2) (fun hh => by have := HLT.out _ hh; omega)).trans HW.out.2.2
    have hg' : ¬ fp' w.heap.size := fun hh => by
      rcases G3 _ hh with h9 | h9
      · have := HLT.out _ h9; omega
      · rw [HSA.out] at h9; omega
    have p0 := blk_cell (j := 0) kP3 rfl
    have p1 := blk_cell (j := 1) kP3 rfl
    have p2 := blk_cell (j := 2) kP3 rfl
    have p3 := blk_cell (j := 3) kP3 rfl
    have c3 := refParted_any p.fs p.fn p.ts p.tn h3
    rw [hC] at c3
    have C3 := Lib.hid c3
    have HW3 := Lib.hid (And.intro kw3 kP3)
    have H3 := Lib.hid h3
    have HF3 := Lib.hid (And.intro F3 G3)
    have HD3 := Lib.hid (HD.out.keep8 k8)
    have HG := Lib.hid hg'
    clear c3 kw3 kP3 h3 F3 G3 k8 C2 hC HD hg'
    go_wp2_with fail
    refine C3.out.mono ?_
    rintro e w4 ⟨rfl, b4⟩
    have kw4 := (b4.block _ (lt_of_block HW3.out.1)).trans HW3.out.1
    have kP4 := (b4.block _ (lt_of_block HW3.out.2)).trans HW3.out.2
    have h4 := H3.out.below b4
    obtain ⟨d2, d3, d4, d5⟩ := h4.cnt_
    have d6 := d5 4
    have d7 := d5 3
    have HP4 := Lib.hid kP4
    have HK := Lib.hid kw4
    have H4 := Lib.hid h4
    have hw1 : IntKind.i64.wrap (c.x + 1) = c.x + 1 := IntWalk.i64_in _ (by omega)
    have hw2 : IntKind.i64.wrap (c.t + 1) = c.t + 1 := IntWalk.i64_in _ (by omega)
    have hq4 : q ≠ w.heap.size := by omega
    have hlw4 := lt_of_block kw4
    have x0 := blk_cell (j := 0) kw4 rfl
    have x1 := blk_cell (j := 1) kw4 rfl
    have x2 := blk_cell (j := 2) kw4 rfl
    have x3 := blk_cell (j := 3) kw4 rfl
    have x4 := blk_cell (j := 4) kw4 rfl
    have f0 := blk_free kw4 0
    have f1 := blk_free kw4 1
    have f2 := blk_free kw4 2
    have f3 := blk_free kw4 3
    have f4 := blk_free kw4 4
    have y0 := blk_cell (j := 0) kP4 rfl
    have y1 := blk_cell (j := 1) kP4 rfl
    have y2 := blk_cell (j := 2) kP4 rfl
    have y3 := blk_cell (j := 3) kP4 rfl
    have y4 := blk_cell (j := 4) kP4 rfl
    have hqP : q ≠ w1.heap.size := by omega
    have HFR := Lib.hid (show Fr fp w w4 from ((Fr.of_below (fp := fp) HW.out.1).trans HF3.out.1 (fun i hi => .inl hi)).trans (Fr.of_below (fp := fp) b4) (fun i hi => .inl hi))
    have HGR := Lib.hid (show Grow w fp fp' from fun i hi => (HF3.out.2 i hi).elim .inl (fun hh => .inr (Nat.le_trans HW.out.1.size hh)))
    have HD4 := Lib.hid (HD3.out.keep8 (Keep8.below b4))
    obtain ⟨bb, hbb⟩ : ∃ bb, C (pairK p.fs p.fn p.ts p.tn) = bb := ⟨_, rfl⟩
    rw [hbb]
    have HBB := Lib.hid hbb
    clear b4 kw4 kP4 h4 d5 C3 H3 HF3 HD3 p0 p1 p2 p3 hbb HW3 d2
    cases bb with
    | true =>
      have e2 : takeC C l (k : Int) c = { c with x := c.x + 1 } := by unfold takeC; rw [HL.out]; simp only; rw [HBB.out]; rfl
      have e3 : takeP C l (k : Int) = zeroPk := by unfold takeP; rw [HL.out]; simp only; rw [HBB.out]; rfl
      have e4 : takeB C l (k : Int) = false := by unfold takeB; rw [HL.out]; simp only; rw [HBB.out]; rfl
      have HEQ := Lib.hid (And.intro e2 (And.intro e3 e4))
      have HE := Lib.hid (H4.out.count (j := 4) (u := .int .i64 (c.x + 1)) (c' := { c with x := c.x + 1 }) (fun _ _ => rfl))
      have HK5 := Lib.hid ((Below.heap_setCell w4 ⟨q, 4, none⟩ (.int .i64 (c.x + 1)) w.heap.size hq4.symm).trans HK.out)
      clear e2 e3 e4
      go_wp2
      refine bodyPost_ret (results_cell_row_tmp rfl _ _ w.heap.size 32 #[.int .i64 0, .int .i64 0, .int .i64 0, .int .i64 0, .slice none 0 0] (0, 0) _ rfl (set5_heap HK5.out) Try.underlying32 rfl Try.infoPkSize) rfl ?_
      rw [HEQ.out.1, HEQ.out.2.1, HEQ.out.2.2]
      exact ⟨none, 0, 0, rfl, Sl.nil _ _ _, fp', HE.out.1.mine HG.out, (HFR.out.trans HE.out.2 HGR.out).trans set5_fr (fun i hi => .inr (by rw [hi]; exact Nat.le_refl _)), HGR.out⟩
    | false =>
      have e2 : takeC C l (k : Int) c = { c with t := c.t + 1 } := by unfold takeC; rw [HL.out]; simp only; rw [HBB.out]; rfl
      have e3 : takeP C l (k : Int) = p := by unfold takeP; rw [HL.out]; simp only; rw [HBB.out]; rfl
      have e4 : takeB C l (k : Int) = true := by unfold takeB; rw [HL.out]; simp only; rw [HBB.out]; rfl
      have HEQ := Lib.hid (And.intro e2 (And.intro e3 e4))
      have HE := Lib.hid (H4.out.count (j := 3) (u := .int .i64 (c.t + 1)) (c' := { c with t := c.t + 1 }) (fun _ _ => rfl))
      have HK5 := Lib.hid ((Below.heap_setCell w4 ⟨q, 3, none⟩ (.int .i64 (c.t + 1)) w.heap.size hq4.symm).trans HK.out)
      have HS5 := Lib.hid (show SlB (set5 (w4.setCell ⟨q, 3, none⟩ (.int .i64 (c.t + 1))) w.heap.size (.int .i64 p.fs) (.int .i64 p.fn) (.int .i64 p.ts) (.int .i64 p.tn) (.slice A n k2)) A n p.d from by
        obtain ⟨cs, hcs⟩ := H4.out.blk
        refine (HD4.out.keep8 ((Keep8.put (j := 3) (u := .int .i64 (c.t + 1)) hcs (by decide)).trans fun b cs' hb => ?_)).1.1
        exact (set5_other (tag_ne hb HK5.out (by decide))).trans hb)
      clear e2 e3 e4
      go_wp2
      refine bodyPost_ret (results_cell_row_tmp rfl _ _ w.heap.size 32 #[.int .i64 p.fs, .int .i64 p.fn, .int .i64 p.ts, .int .i64 p.tn, .slice A n k2] (0, 0) _ rfl (set5_heap HK5.out) Try.underlying32 rfl Try.infoPkSize) rfl ?_
      rw [HEQ.out.1, HEQ.out.2.1, HEQ.out.2.2]
      exact ⟨A, n, k2, rfl, HS5.out, fp', HE.out.1.mine HG.out, (HFR.out.trans HE.out.2 HGR.out).trans set5_fr (fun i hi => .inr (by rw [hi]; exact Nat.le_refl _)), HGR.out⟩
end
end Go.Proofs.Ytcdbpimpmhfkhaa
