/-
  The document's network: Flip.
-/
import Derived.Test.YtcdbpimpmhfkhaaNetRefFlip
namespace Go.Proofs.Ytcdbpimpmhfkhaa
open Go.RowKit
set_option linter.unusedVariables false

theorem bsV_set' (l : List UInt8) (k : Nat) (y : UInt8) : (bsV l).set k (bV y) = bsV (l.set k y) := by unfold bsV; rw [List.map_set]
section
variable {w w' : World} {fp fp' : Nat → Prop} {q : Nat} {l : List Pk} {cl : List K4} {c : Cnt}
set_option maxHeartbeats 8000000 in
theorem refFlip_any (i a : Int) (x : UInt8) (h : RNet w fp q l cl c) (hl4 : l.length ≤ 4096) :
    Calls Try.prog 35 #[.pointer (some ⟨q, 0, none⟩), .int .i64 i, .int .i64 a, bV x] w (RTo w fp q (flipL l i a x) cl c (.bool (flipB l i a))) := by
  have CL := Lib.hid (refLook_any i h)
  have HH := Lib.hid h
  rcases look_cases l i with ⟨hl, hi2⟩ | ⟨k, p, rfl, hk, hp, hl⟩
  · have e1 : flipL l i a x = l := by unfold flipL; rw [hl]
    have e2 : flipB l i a = false := by unfold flipB; rw [hl]
    rw [e1, e2]
    rw [hl] at CL
    clear h hl hi2 e1 e2
    go_enter Try.func35, Try.ntmps35
    go_wp2_with fail
    refine CL.out.mono ?_
    rintro e w1 ⟨A, n, k2, rfl, hd, b1⟩
    have HB := Lib.hid b1
    clear hd b1 CL
    go_wp2
    go_ret
    exact HH.out.later (HB.out.alloc HB.out.size _)
  · have e1 : flipL l (k : Int) a x = if 0 ≤ a ∧ a < p.d.length then l.set k (flipP p a.toNat x) else l := by unfold flipL; rw [hl]; rfl
    have e2 : flipB l (k : Int) a = decide (0 ≤ a ∧ a < (p.d.length : Int)) := by unfold flipB; rw [hl]
    rw [e1, e2]
    rw [hl] at CL
    by_cases ha : 0 ≤ a ∧ a < p.d.length
    rotate_left
    · have e3 : decide (0 ≤ a ∧ a < (p.d.length : Int)) = false := by simpa using ha
      rw [if_neg ha, e3]
      clear h hl hp e1 e2 e3
      rcases (show a < 0 ∨ (0 ≤ a ∧ (p.d.length : Int) ≤ a) by omega) with h1 | ⟨h1, h2⟩
      · clear ha
        have q1 : decide (a < 0) = true := decide_eq_true h1
        go_enter Try.func35, Try.ntmps35
        go_wp2_with fail
        refine CL.out.mono ?_
        rintro e w1 ⟨A, n, k2, rfl, hd, b1⟩
        simp only [Option.getD_some] at hd ⊢
        have hn : p.d.length = n := SlB.len hd.1.1
        have HB := Lib.hid b1
        clear hd b1 CL hn
        go_wp2
        go_ret
        exact HH.out.later (HB.out.alloc HB.out.size _)
      · clear ha
        have q1 : decide (a < 0) = false := decide_eq_false (by omega)
        go_enter Try.func35, Try.ntmps35
        go_wp2_with fail
        refine CL.out.mono ?_
        rintro e w1 ⟨A, n, k2, rfl, hd, b1⟩
        simp only [Option.getD_some] at hd ⊢
        have hn : p.d.length = n := SlB.len hd.1.1
        have HB := Lib.hid b1
        have q2 : decide (a ≥ (n : Int)) = true := decide_eq_true (by omega)
        have q3 : decide ((n : Int) ≤ a) = true := decide_eq_true (by omega)
        clear hd b1 CL hn
        go_wp2
        go_ret
        exact HH.out.later (HB.out.alloc HB.out.size _)
    · have e3 : decide (0 ≤ a ∧ a < (p.d.length : Int)) = true := by simpa using ha
      rw [if_pos ha, e3]
      obtain ⟨at_, rfl⟩ := Int.eq_ofNat_of_zero_le ha.1
      have hat : at_ < p.d.length := by omega
      obtain ⟨lv, cv, rows, hp0⟩ := h.ex
      have HP := Lib.hid hp0
      have hyx : ∃ y, rows[k]? = some y ∧ y.1 = p := by
        obtain ⟨y, hy⟩ : ∃ y, rows[k]? = some y := ⟨_, List.getElem?_eq_getElem (by rw [← hp0.2.2.2.1, List.length_map] at hk; exact hk)⟩
        refine ⟨y, hy, ?_⟩
        rw [← hp0.2.2.2.1, List.getElem?_map, hy] at hp
        simpa using hp
      obtain ⟨y, hy, hyp⟩ := hyx
      obtain ⟨g, cc, elv, d0, ⟨r0, r1, r2, r3, r4⟩, _, hg⟩ := hp0.at_ hy
      have hfg : fp g := by refine hp0.2.2.1 g ?_; rw [elv]; rfl
      have HY := Lib.hid (And.intro hy (And.intro hyp elv))
      have hlq := h.lt _ h.inp
      have HR := Lib.hid (And.intro d0 (And.intro r0 (And.intro r1 (And.intro r2 (And.intro r3 r4)))))
      have HFZ := Lib.hid (show ∀ j, w.frozen? ⟨g, j, none⟩ = false from fun j => by have ho := hp0.2.1; rw [elv] at ho; exact ho.frozenAt j)
      have HGT := Lib.hid (show ∃ cs, w.heap[g]? = some (.cells cs 32 (0, 0)) from by have ho := hp0.2.1; rw [elv] at ho; exact own_tag ho rfl)
      have HFG := Lib.hid hfg
      have q1 : decide ((at_ : Int) < 0) = false := decide_eq_false (by omega)
      clear h hl hp e1 e2 e3 ha hp0 hy hyp elv d0 r0 r1 r2 r3 r4 hfg
      go_enter Try.func35, Try.ntmps35
      go_wp2_with fail
      refine CL.out.mono ?_
      rintro e w1 ⟨A, n, k2, rfl, hd, b1⟩
      simp only [Option.getD_some] at hd ⊢
      have hs : SlB w1 A n p.d := hd.1.1
      have hn : p.d.length = n := SlB.len hs
      have hnn : n ≤ tokMax := by have := hd.2.2.1; simp only at this; omega
      have bA := b1.alloc b1.size (.cells #[.int .i64 p.fs, .int .i64 p.fn, .int .i64 p.ts, .int .i64 p.tn, .slice A n k2] 32)
      have kb := heap_alloc_new w1 (.cells #[.int .i64 p.fs, .int .i64 p.fn, .int .i64 p.ts, .int .i64 p.tn, .slice A n k2] 32)
      have C2 := Lib.hid (refOwn_any p A n k2 (w1.alloc (.cells #[.int .i64 p.fs, .int .i64 p.fn, .int .i64 p.ts, .int .i64 p.tn, .slice A n k2] 32)) (Sl.alloc hs _) hd.2.1 hnn)
      have HWF := Lib.hid (show p.wf from hd.2.2.2)
      have q2 : decide ((at_ : Int) ≥ (n : Int)) = false := decide_eq_false (by omega)
      have q3 : decide ((n : Int) ≤ (at_ : Int)) = false := decide_eq_false (by omega)
      have q4 : decide (n ≤ at_) = false := decide_eq_false (by omega)
      have HBA := Lib.hid bA
      have HKB := Lib.hid kb
      have HDL := Lib.hid (show p.d.length ≤ tokMax from hd.2.2.1)
      have hsA : (w1.alloc (.cells #[.int .i64 p.fs, .int .i64 p.fn, .int .i64 p.ts, .int .i64 p.tn, .slice A n k2] 32)).heap.size = w1.heap.size + 1 := by simp
      have HSA := Lib.hid hsA
      have hw1 := b1.size
      clear hd b1 hs hnn bA kb CL hsA hn
      go_wp2_with fail
      refine C2.out.mono ?_
      rintro e w2 ⟨A1, n1, c1, rfl, s1, hc1, hn1, o1, b2⟩
      have kb2 := (b2.block _ (lt_of_block HKB.out)).trans HKB.out
      have hlen : p.d.length = n1 := SlB.len s1
      obtain ⟨g1, cp1, hv1, -, -⟩ := o1.form (by omega)
      injection hv1 with hv1 hv2 hv3
      subst hv1 hv3
      have hg1 := (o1.lt g1 rfl).1
      rw [HSA.out] at hg1
      have x0 := blk_cell (j := 0) kb2 rfl
      have x1 := blk_cell (j := 1) kb2 rfl
      have x2 := blk_cell (j := 2) kb2 rfl
      have x3 := blk_cell (j := 3) kb2 rfl
      have x4 := blk_cell (j := 4) kb2 rfl
      have f0 := blk_free kb2 0
      have f1 := blk_free kb2 1
      have f2 := blk_free kb2 2
      have f3 := blk_free kb2 3
      have f4 := blk_free kb2 4
      have F3 : Fr (fun i => i = w1.heap.size) w2 (set5 w2 w1.heap.size (.int .i64 p.fs) (.int .i64 p.fn) (.int .i64 p.ts) (.int .i64 p.tn) (.slice (some ⟨g1, 0, none⟩) n1 c1)) := set5_fr
      have bw2 : Below w.heap.size w w2 := HBA.out.trans (b2.mono HBA.out.size)
      have HB3 := Lib.hid (bw2.trans (F3.below (B := w.heap.size) (fun i hi => by omega) bw2.size))
      have HK3 := Lib.hid (set5_heap (v0 := .int .i64 p.fs) (v1 := .int .i64 p.fn) (v2 := .int .i64 p.ts) (v3 := .int .i64 p.tn) (v4 := .slice (some ⟨g1, 0, none⟩) n1 c1) kb2)
      have HO3 := Lib.hid (own_keep (fp := fun b => w1.heap.size + 1 ≤ b) o1 (fun g' hg' => by have := (o1.lt g' hg').1; rw [HSA.out] at this; exact this) (F3.kept fun i hi hi' => by have e5 : i = w1.heap.size := hi'; omega))
      have HLN := Lib.hid hlen
      have HC := Lib.hid (And.intro hc1 hn1)
      have hn1p : at_ < n1 := by omega
      clear kb2 F3 bw2 o1 s1 hc1 hn1 b2 C2 hlen hv2
      go_wp2_with fail
      generalize hw3 : ((((w2.setCell ⟨w1.heap.size, 0, none⟩ (.int .i64 p.fs)).setCell ⟨w1.heap.size, 1, none⟩ (.int .i64 p.fn)).setCell ⟨w1.heap.size, 2, none⟩ (.int .i64 p.ts)).setCell ⟨w1.heap.size, 3, none⟩ (.int .i64 p.tn)).setCell ⟨w1.heap.size, 4, none⟩ (.slice (some ⟨g1, 0, none⟩) n1 c1) = w3
      have HW3 := Lib.hid hw3
      clear x0 x1 x2 x3 x4 f0 f1 f2 f3 f4 hw3
      have b3 : Below w.heap.size w w3 := by rw [← HW3.out]; exact HB3.out
      have k3 : w3.heap[w1.heap.size]? = some (.cells #[.int .i64 p.fs, .int .i64 p.fn, .int .i64 p.ts, .int .i64 p.tn, .slice (some ⟨g1, 0, none⟩) n1 c1] 32 (0, 0)) := by rw [← HW3.out]; exact HK3.out
      have o3 : w3.ownsRow (w1.alloc (.cells #[.int .i64 p.fs, .int .i64 p.fn, .int .i64 p.ts, .int .i64 p.tn, .slice A n k2] 32)).heap.size 5 1 (.slice (some ⟨g1, 0, none⟩) n1 c1) n1 (bsV p.d) := by rw [← HW3.out]; exact HO3.out
      obtain ⟨b, hb⟩ : ∃ b, p.d[at_]? = some b := ⟨_, List.getElem?_eq_getElem hat⟩
      have y0 : w3.cell? ⟨g1, at_, none⟩ = some (bV b) := by rw [o3.cellAt at_ (by omega)]; simp [bsV, hb]
      have y1 := o3.frozenAt at_
      have y4 := blk_cell (j := 4) k3 rfl
      have j0 : (0 : Int) ≤ (at_ : Int) := by omega
      have j1 : (at_ : Int) < (n1 : Int) := by omega
      have hxr := fun w => run_xor8 w b x
      have st := (o3.stored at_ (bV (b ^^^ x))).1
      rw [bsV_set'] at st
      have HBB := Lib.hid hb
      have HST := Lib.hid (show (w3.setCell ⟨g1, at_, none⟩ (bV (b ^^^ x))).ownsRow _ _ _ _ _ _ from st)
      have F4 : Fr (fun i => i = g1) w3 (w3.setCell ⟨g1, at_, none⟩ (bV (b ^^^ x))) := Fr.set w3 ⟨g1, at_, none⟩ _
      have HB4 := Lib.hid (b3.trans (F4.below (B := w.heap.size) (fun i hi => by omega) b3.size))
      have HK4 := Lib.hid ((F4.block w1.heap.size (lt_of_block k3) (fun e => by have e5 : w1.heap.size = g1 := e; omega)).trans k3)
      clear hb o3 b3 k3 st F4 HB3 HK3 HO3 HW3
      go_region
      have hx8 : (Value.int .u8 ((b.toNat ^^^ x.toNat : Nat) : Int)) = bV (b ^^^ x) := by unfold bV; rw [UInt8.toNat_xor]
      rw [hx8]
      generalize hw4 : (w3.setCell ⟨g1, at_, none⟩ (bV (b ^^^ x))).drew = w4
      have b4 : Below w.heap.size w w4 := by rw [← hw4]; exact HB4.out.drew
      have k4 : w4.heap[w1.heap.size]? = some (.cells #[.int .i64 p.fs, .int .i64 p.fn, .int .i64 p.ts, .int .i64 p.tn, .slice (some ⟨g1, 0, none⟩) n1 c1] 32 (0, 0)) := by rw [← hw4]; exact HK4.out
      have o4 : w4.ownsRow (w1.alloc (.cells #[.int .i64 p.fs, .int .i64 p.fn, .int .i64 p.ts, .int .i64 p.tn, .slice A n k2] 32)).heap.size 5 1 (.slice (some ⟨g1, 0, none⟩) n1 c1) n1 (bsV (p.d.set at_ (b ^^^ x))) := by
        rw [← hw4]
        exact own_keep (fp := fun _ => True) HST.out (fun _ _ => trivial) (Kept.drew _ _)
      have hp4 := HP.out.kept HH.out.inp (Kept.below b4)
      have h4 := HH.out.below b4
      obtain ⟨d0, r0, r1, r2, r3, r4⟩ := HR.out
      obtain ⟨hy, hyp, elv⟩ := HY.out
      have fz : ∀ j, w4.frozen? ⟨g, j, none⟩ = false := fun j => by have ho := hp4.2.1; rw [elv] at ho; exact ho.frozenAt j
      have z0 := fz (k * 5)
      have z1 := fz (k * 5 + 1)
      have z2 := fz (k * 5 + 2)
      have z3 := fz (k * 5 + 3)
      have z4 := fz (k * 5 + 4)
      have c0 := (b4.cell (World.block_lt_of_cell? w _ d0)).trans d0
      have t0 := (b4.cell (World.block_lt_of_cell? w _ r0)).trans r0
      have t1 := (b4.cell (World.block_lt_of_cell? w _ r1)).trans r1
      have t2 := (b4.cell (World.block_lt_of_cell? w _ r2)).trans r2
      have t3 := (b4.cell (World.block_lt_of_cell? w _ r3)).trans r3
      have t4 := (b4.cell (World.block_lt_of_cell? w _ r4)).trans r4
      have u0 := blk_cell (j := 0) k4 rfl
      have u1 := blk_cell (j := 1) k4 rfl
      have u2 := blk_cell (j := 2) k4 rfl
      have u3 := blk_cell (j := 3) k4 rfl
      have u4 := blk_cell (j := 4) k4 rfl
      have i0 : (0 : Int) ≤ (k : Int) := by omega
      have i1 : (k : Int) < (l.length : Int) := by omega
      have hfp : flipP p ((at_ : Int)).toNat x = { p with d := p.d.set at_ (b ^^^ x) } := by
        unfold flipP
        rw [Int.toNat_natCast, show p.d.getD at_ 0 = b by rw [List.getD_eq_getElem?_getD, HBB.out]; rfl]
      have SA := h4.setAt (ex := fun b => w.heap.size ≤ b ∧ b < w4.heap.size) hp4 hy elv (p' := { p with d := p.d.set at_ (b ^^^ x) }) (A := some ⟨g1, 0, none⟩) (n := n1) (k2 := c1) ⟨by rw [hyp], by rw [hyp], by rw [hyp], by rw [hyp]⟩ (fun b hb => hb.2)
        ⟨SlF.of_own o4 (fun i h1 h2 => .inr ⟨by rw [HSA.out] at h1; omega, h2⟩), HC.out.1, by simp only [List.length_set]; exact HDL.out, HWF.out⟩
      rw [← hfp] at SA
      have HSAT := Lib.hid SA
      have HB4' := Lib.hid b4
      clear hw4 b4 k4 o4 hp4 h4 d0 r0 r1 r2 r3 r4 hy hyp elv fz SA hfp HB4 HK4 HST y0 y1 y4 hxr hx8
      go_wp2_with fail
      go_region
      all_goals go_wp2
      all_goals go_ret
      all_goals
        have hE := HSAT.out
        refine ⟨rfl, fun b => fp b ∨ (w.heap.size ≤ b ∧ b < w4.heap.size), hE.1.below ((Below.refl _ _).drew), ((Fr.of_below (fp := fp) HB4'.out).trans hE.2 (fun i hi => .inl hi)).drew, fun i hi => hi.elim .inl (fun hh => .inr hh.1)⟩
end
end Go.Proofs.Ytcdbpimpmhfkhaa
