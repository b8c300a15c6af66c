/-
  firthref06.Rec answers what code.Rec does.
-/
import Derived.Test.YtgnedaihchmoaaaCodeRefReadR
import Derived.Test.YtgnedaihchmoaaaCodeRefSet
import Derived.Test.YtgnedaihchmoaaaCodeRefRight
import Derived.Test.YtgnedaihchmoaaaCodeWholeRec
namespace Go.Proofs.Ytgnedaihchmoaaa
open Go.RowKit
set_option linter.unusedVariables false

theorem qst_at (w : World) (A : Option Addr) (n c g : Nat) (L : List UInt8) (hg : g = w.heap.size) (hs : SlB w A n L) (hc : n ≤ c) (h9 : n ≤ 4000000000000) :
    QSt (w.alloc (.cells #[.slice A n c, .int .i64 0, .bool false] 109)) g A n c L 0 false := by
  subst hg
  exact qst_new w A n c L hs hc h9
set_option maxHeartbeats 4000000 in
set_option maxRecDepth 100000 in
theorem refRecTop_any (w : World) (A : Option Addr) (n c : Nat) (L : List UInt8) (hs : SlB w A n L) (hc : n ≤ c) (h9 : n ≤ 1000000000000) :
    Calls Try.prog 28 #[.slice A n c] w (RecAns w (recR okP L)) := by
  rw [recR_eq okP_small okQ_small]
  have HL := Lib.hid hs.len
  have bA : Below w.heap.size w (w.alloc (.cells #[.string ⟨#[]⟩, .slice none 0 0] 48)) := (Below.refl _ _).alloc (Nat.le_refl _) _
  have bB := bA.alloc bA.size (.cells #[.slice A n c, .int .i64 0, .bool false] 109)
  have X0 := Lib.hid ((Below.heap_alloc _ (.cells #[.slice A n c, .int .i64 0, .bool false] 109) w.heap.size (by simp)).trans (heap_alloc_new w (.cells #[.string ⟨#[]⟩, .slice none 0 0] 48)))
  have C1 := Lib.hid (qrec_one (qst_at _ A n c (w.heap.size + 1) L (by simp) (Sl.below hs bA) hc (by omega)) h9)
  have HB := Lib.hid bB
  clear hs bA bB
  go_enter Try.func28, Try.ntmps28
  go_wp2_with fail
  refine C1.out.mono ?_
  rintro e w1 ⟨_, x, a', bad', rfl, ⟨rows, A1, c1, rfl, hrows, hO, hc1, hk, hl⟩, h1, f1, hq⟩
  obtain ⟨key, vs⟩ := x
  simp only at hrows hO hc1 hk hl
  have hX1 := (f1.block _ (lt_of_block X0.out) (by omega)).trans X0.out
  have hw1 := lt_of_block hX1
  have b1 : Below w.heap.size w w1 := HB.out.trans (f1.below (B := w.heap.size) (fun i hi => by have hi2 : i = w.heap.size + 1 := hi; omega) HB.out.size)
  have bC : Below w1.heap.size w1 (w1.alloc (.cells #[.string key, .slice A1 vs.length c1] 48)) := (Below.refl _ _).alloc (Nat.le_refl _) _
  have hb := heap_alloc_new w1 (.cells #[.string key, .slice A1 vs.length c1] 48)
  have y0 := row_cell (j := 0) hb rfl
  have y1 := row_cell (j := 1) hb rfl
  have hst := h1.move bC
  have r1 := hst.c1
  have r2 := hst.c2
  have XZ0 := Lib.hid ((bC.block _ hw1).trans hX1)
  have XW := Lib.hid (And.intro hX1 b1)
  have HZ0 := Lib.hid (b1.trans (bC.mono b1.size))
  have HO := Lib.hid (hO.below bC)
  have HQQ := Lib.hid hq
  have HRW := Lib.hid hrows
  have hsw : w.heap.size + 1 < w1.heap.size := h1.lt
  clear hO hq hrows h1 f1 hX1 bC hb hst b1 C1 X0 HB
  cases bad' with
  | true =>
    have HN := Lib.hid (show recR okQ L = none from by
      rcases HQQ.out.2 rfl with h | h
      · cases h
      · exact recR_no1 h)
    have v0 := row_cell (j := 0) XW.out.1 rfl
    have v1 := row_cell (j := 1) XW.out.1 rfl
    have v2 := frozen_of_row w1 w.heap.size 0 _ _ XW.out.1
    have v3 := frozen_of_row w1 w.heap.size 1 _ _ XW.out.1
    have hlx := lt_of_block XW.out.1
    have k0 := heap_setCell_same _ w.heap.size 1 _ _ (.slice none 0 0) (heap_setCell_same w1 w.heap.size 0 _ _ (.string ⟨#[]⟩) XW.out.1)
    have k1 := (Below.heap_alloc _ (.cells #[.string key, .slice A1 vs.length c1] 48) w.heap.size (by simp; omega)).trans k0
    have q0 := row_cell (j := 0) k1 rfl
    have q1 := row_cell (j := 1) k1 rfl
    have HQ := Lib.hid (And.intro q0 q1)
    have HE := Lib.hid (RecAns.no (w := w) (o := recR okQ L) HN.out (((XW.out.2.setCell (p := ⟨w.heap.size, 0, none⟩) (Nat.le_refl _) (.string ⟨#[]⟩)).setCell (p := ⟨w.heap.size, 1, none⟩) (Nat.le_refl _) (.slice none 0 0)).alloc (by simp; omega) (.cells #[.string key, .slice A1 vs.length c1] 48)))
    clear q0 q1 k1 k0
    go_wp2
    obtain ⟨q0, q1⟩ := HQ.out
    refine bodyPost_ret (v := .tuple #[.agg #[.string ⟨#[]⟩, .slice none 0 0], .int .i64 2]) ?_ rfl HE.out
    simp [results, Try.results28, go_sem, q0, q1]
  | false =>
    have HT := Lib.hid (HQQ.out.1 rfl).2
    by_cases ha : a' = n
    · have q : ((a' : Int) != (n : Int)) = false := by rw [ha]; simp
      have q2 : ((a' : Int) == (n : Int)) = true := by rw [ha]; simp
      have c2 := refRightRec_any ⟨key, vs⟩ A1 vs.length c1 _ (HO.out.rrow HRW.out hc1 hl hk)
      have HAA := Lib.hid ha
      clear ha
      cases hr : rightR ⟨key, vs⟩
      · rw [hr] at c2
        have C2 := Lib.hid c2
        have HN := Lib.hid (recR_no2 HT.out (fun h => by rw [hr] at h; cases h.2))
        clear c2 hr
        go_wp2_with fail
        refine C2.out.mono ?_
        rintro e w2 ⟨rfl, b2⟩
        have XZ := Lib.hid ((b2.block _ (lt_of_block XZ0.out)).trans XZ0.out)
        have HZ := Lib.hid (HZ0.out.trans (b2.mono HZ0.out.size))
        clear b2 C2 y0 y1 r1 r2
        have z0 := frozen_of_row _ w.heap.size 0 _ _ XZ.out
        have z1 := frozen_of_row _ w.heap.size 1 _ _ XZ.out
        have r0 := row_cell (j := 0) XZ.out rfl
        have r1 := row_cell (j := 1) XZ.out rfl
        have k1 := heap_setCell_same _ w.heap.size 1 _ _ (.slice none 0 0) (heap_setCell_same _ w.heap.size 0 _ _ (.string ⟨#[]⟩) XZ.out)
        have q0 := row_cell (j := 0) k1 rfl
        have q1 := row_cell (j := 1) k1 rfl
        have HQ := Lib.hid (And.intro q0 q1)
        have hlx := lt_of_block XZ.out
        have HE := Lib.hid (RecAns.no (w := w) (o := recR okQ L) HN.out ((HZ.out.setCell (p := ⟨w.heap.size, 0, none⟩) (Nat.le_refl _) (.string ⟨#[]⟩)).setCell (p := ⟨w.heap.size, 1, none⟩) (Nat.le_refl _) (.slice none 0 0)))
        clear q0 q1 k1
        go_wp2
        obtain ⟨q0, q1⟩ := HQ.out
        refine bodyPost_ret (v := .tuple #[.agg #[.string ⟨#[]⟩, .slice none 0 0], .int .i64 2]) ?_ rfl HE.out
        simp [results, Try.results28, go_sem, q0, q1]
      · rw [hr] at c2
        have C2 := Lib.hid c2
        have HN := Lib.hid (recR_yes HT.out ⟨HAA.out.trans HL.out.symm, hr⟩)
        have hb := heap_alloc_new w1 (.cells #[.string key, .slice A1 vs.length c1] 48)
        have HBX := Lib.hid hb
        clear c2 hr hb
        go_wp2_with fail
        refine C2.out.mono ?_
        rintro e w2 ⟨rfl, b2⟩
        have XZ := (b2.block _ (lt_of_block XZ0.out)).trans XZ0.out
        have HZ := Lib.hid (HZ0.out.trans (b2.mono HZ0.out.size))
        have hx2 := (b2.block _ (lt_of_block HBX.out)).trans HBX.out
        have y0 := row_cell (j := 0) hx2 rfl
        have y1 := row_cell (j := 1) hx2 rfl
        have z0 := frozen_of_row w2 w.heap.size 0 _ _ XZ
        have z1 := frozen_of_row w2 w.heap.size 1 _ _ XZ
        have r0 := row_cell (j := 0) XZ rfl
        have r1 := row_cell (j := 1) XZ rfl
        have k1 := heap_setCell_same _ w.heap.size 1 _ _ (.slice A1 vs.length c1) (heap_setCell_same w2 w.heap.size 0 _ _ (.string key) XZ)
        have q0 := row_cell (j := 0) k1 rfl
        have q1 := row_cell (j := 1) k1 rfl
        have HQ := Lib.hid (And.intro q0 q1)
        have hlx := lt_of_block XZ
        have own8 := (((HO.out.below b2).set (g := w.heap.size) (j := 0) (by simp; omega) (.string key)).set (g := w.heap.size) (j := 1) (by simp; omega) (.slice A1 vs.length c1)).lower (show w.heap.size ≤ _ by simp; omega)
        have HE := Lib.hid (RecAns.yes (w := w) (o := recR okQ L) HN.out (RecV.of HRW.out own8 hc1 ⟨hk, hl⟩) ((HZ.out.setCell (p := ⟨w.heap.size, 0, none⟩) (Nat.le_refl _) (.string key)).setCell (p := ⟨w.heap.size, 1, none⟩) (Nat.le_refl _) (.slice A1 vs.length c1)))
        clear q0 q1 k1 XZ b2 C2 own8 hx2
        go_wp2
        obtain ⟨q0, q1⟩ := HQ.out
        refine bodyPost_ret (v := .tuple #[.agg #[.string key, .slice A1 vs.length c1], .int .i64 0]) ?_ rfl HE.out
        simp [results, Try.results28, go_sem, q0, q1]
    · have q : ((a' : Int) != (n : Int)) = true := by rw [bne_iff_ne]; omega
      have q2 : ((a' : Int) == (n : Int)) = false := by rw [beq_eq_false_iff_ne]; omega
      have HN := Lib.hid (recR_no2 HT.out (fun h => ha (h.1.trans HL.out)))
      clear ha
      have v0 := row_cell (j := 0) XW.out.1 rfl
      have v1 := row_cell (j := 1) XW.out.1 rfl
      have v2 := frozen_of_row w1 w.heap.size 0 _ _ XW.out.1
      have v3 := frozen_of_row w1 w.heap.size 1 _ _ XW.out.1
      have hlx := lt_of_block XW.out.1
      have k0 := heap_setCell_same _ w.heap.size 1 _ _ (.slice none 0 0) (heap_setCell_same w1 w.heap.size 0 _ _ (.string ⟨#[]⟩) XW.out.1)
      have k1 := (Below.heap_alloc _ (.cells #[.string key, .slice A1 vs.length c1] 48) w.heap.size (by simp; omega)).trans k0
      have q0 := row_cell (j := 0) k1 rfl
      have q1 := row_cell (j := 1) k1 rfl
      have HQ := Lib.hid (And.intro q0 q1)
      have HE := Lib.hid (RecAns.no (w := w) (o := recR okQ L) HN.out (((XW.out.2.setCell (p := ⟨w.heap.size, 0, none⟩) (Nat.le_refl _) (.string ⟨#[]⟩)).setCell (p := ⟨w.heap.size, 1, none⟩) (Nat.le_refl _) (.slice none 0 0)).alloc (by simp; omega) (.cells #[.string key, .slice A1 vs.length c1] 48)))
      clear q0 q1 k1 k0
      go_wp2
      obtain ⟨q0, q1⟩ := HQ.out
      refine bodyPost_ret (v := .tuple #[.agg #[.string ⟨#[]⟩, .slice none 0 0], .int .i64 2]) ?_ rfl HE.out
      simp [results, Try.results28, go_sem, q0, q1]
end Go.Proofs.Ytgnedaihchmoaaa
