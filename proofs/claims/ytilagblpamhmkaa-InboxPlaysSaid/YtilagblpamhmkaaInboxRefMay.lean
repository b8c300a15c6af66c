/-
  firthref18.May
-/
import Derived.Test.YtilagblpamhmkaaInboxRefState
namespace Go.Proofs.Ytilagblpamhmkaa
open Go.RowKit
set_option linter.unusedVariables false

set_option maxHeartbeats 4000000 in
set_option maxRecDepth 100000 in
theorem rmay_any (w : World) (v : List Int) (x : Fa) (Av : Option Addr) (nv cv : Nat) (A : Option Addr) (n c : Nat) (sl : Value) (hsv : SlI w Av nv v) (hnv : nv ≤ 140737488351232) (hv : SlV w A n x.rc.vers) (h1 : x.rc.vers.length = 1) :
    Calls Try.prog 44 #[.agg #[.int .i64 x.src, .int .i64 x.seq, .string x.rc.key, .slice A n c, sl], .slice Av nv cv] w (ValE w (.bool (mayB v x))) := by
  have bA : Below w.heap.size w (w.alloc (.cells #[.int .i64 x.src, .int .i64 x.seq, .string x.rc.key, .slice A n c, sl] 61)) := (Below.refl _ _).alloc (Nat.le_refl _) _
  have kA := heap_alloc_new w (.cells #[.int .i64 x.src, .int .i64 x.seq, .string x.rc.key, .slice A n c, sl] 61)
  have hsv1 : SlI (w.alloc (.cells #[.int .i64 x.src, .int .i64 x.seq, .string x.rc.key, .slice A n c, sl] 61)) Av nv v := Sl.below hsv bA
  have hv1 := hv.below bA
  have hxl : w.heap.size < (w.alloc (.cells #[.int .i64 x.src, .int .i64 x.seq, .string x.rc.key, .slice A n c, sl] 61)).heap.size := by simp
  obtain ⟨W1, hW1⟩ : ∃ W1, w.alloc (.cells #[.int .i64 x.src, .int .i64 x.seq, .string x.rc.key, .slice A n c, sl] 61) = W1 := ⟨_, rfl⟩
  rw [hW1] at bA kA hsv1 hv1 hxl
  have HW1 := Lib.hid hW1
  have HB := Lib.hid bA
  have HSS := Lib.hid (fun (W' : World) (bl : Below W1.heap.size W1 W') => (bl.block _ hxl).trans kA)
  have CD := Lib.hid (fun (W' : World) (bl : Below W1.heap.size W1 W') => rdot_any W' x A n c sl (hv1.below bl) h1)
  have CN := Lib.hid (fun (W' : World) (bl : Below W1.heap.size W1 W') => refNext_any Av nv cv v x.ver.s W' (Sl.below hsv1 bl) hnv)
  have CH := Lib.hid (fun (W' : World) (bl : Below W1.heap.size W1 W') => And.intro (show SlI W' Av nv v from Sl.below hsv1 bl) (hv1.below bl))
  have H1 := Lib.hid h1
  have HNV := Lib.hid hnv
  obtain ⟨⟨sd, nd, ed⟩, hN⟩ : ∃ t, nextOf v x.ver.s = t := ⟨_, rfl⟩
  rw [hN] at CN
  have HN := Lib.hid hN
  have x0 := row_cell (j := 0) kA rfl
  have x1 := row_cell (j := 1) kA rfl
  have x2 := row_cell (j := 2) kA rfl
  have x3 := row_cell (j := 3) kA rfl
  have x4 := row_cell (j := 4) kA rfl
  rw [← hW1] at x0 x1 x2 x3 x4
  clear hsv hv h1 bA kA hsv1 hv1 hW1 hnv hN hxl
  go_enter Try.func44, Try.ntmps44
  go_wp2_with fail
  rw [HW1.out]
  refine (CD.out _ (Below.refl _ _)).mono ?_
  rintro e w2 ⟨rfl, b2⟩
  have H2 := Lib.hid b2
  clear b2 x0 x1 x2 x3 x4
  have fd := fun W => Try.fieldDot0 (.int .i64 x.ver.s) (.int .i64 x.ver.n) W
  go_wp2_with fail
  refine (CN.out _ H2.out).mono ?_
  rintro e w3 ⟨rfl, b3⟩
  have b4 := H2.out.trans (b3.mono H2.out.size)
  have b5 := b4.alloc b4.size (.cells #[.int .i64 sd, .int .i64 nd] 39)
  have k5 := heap_alloc_new w3 (.cells #[.int .i64 sd, .int .i64 nd] 39)
  obtain ⟨W5, hW5⟩ : ∃ W5, w3.alloc (.cells #[.int .i64 sd, .int .i64 nd] 39) = W5 := ⟨_, rfl⟩
  rw [hW5] at b5 k5
  have HW5 := Lib.hid hW5
  have kf := HSS.out W5 b5
  have X0 := Ext.cell (row_cell (j := 0) kf rfl)
  have X1 := Ext.cell (row_cell (j := 1) kf rfl)
  have X2 := Ext.cell (row_cell (j := 2) kf rfl)
  have X3 := Ext.cell (row_cell (j := 3) kf rfl)
  have X4 := Ext.cell (row_cell (j := 4) kf rfl)
  have X6 := Ext.cell (row_cell (j := 0) k5 rfl)
  have X7 := Ext.cell (row_cell (j := 1) k5 rfl)
  obtain ⟨bq, oq, A2, n2, c2, hA, hn, -, -, y2, hvr⟩ := ver_at (CH.out _ b5).2 H1.out
  have C1 := Lib.hid (fun z : Ext W5 => CD.out _ (b5.trans (z.below.mono b5.size)))
  subst hA hn
  have X8 := Ext.cell y2
  have i0 : (0 : Int) < ((1 : Nat) : Int) := by decide
  have C2 := Lib.hid (fun z : Ext W5 => refHolds_any Av nv cv v A2 n2 c2 x.ver.past z.w (Sl.below (CH.out _ b5).1 z.below) HNV.out (Sl.below hvr.sl z.below) hvr.n9 hvr.wfp)
  have HBX := Lib.hid (HB.out.trans (b5.mono HB.out.size))
  obtain ⟨hb, hhb⟩ : ∃ hb, holdsB v x.ver.past = hb := ⟨_, rfl⟩
  obtain ⟨db, hdb⟩ : ∃ db, decide (sd = x.ver.s ∧ nd = x.ver.n) = db := ⟨_, rfl⟩
  have q1 := eq_dot sd nd x.ver.s x.ver.n
  rw [hdb] at q1
  rw [hhb] at C2
  have HM := Lib.hid (show mayB v x = (decide (ed = 0) && (db && hb)) from by unfold mayB; rw [HN.out, hhb, ← hdb])
  clear b3 b4 b5 k5 hW5 kf y2 hvr HSS CD CN CH hhb hdb
  by_cases he : ed = 0
  · subst he
    cases db
    · go_wp2_with fail
      rw [HW5.out]
      go_wp2_with fail
      refine wp_region_ext (by kernel_rfl) (by kernel_rfl) ?_
      repeat (go_big_quiet_step (first
        | (go_at_call 43; with_reducible exact Calls.ext_of (C1.out _))
        | (go_at_call 15; with_reducible exact Calls.ext_of (C2.out _)) | fail))
      refine wpQuiet_nil ?_
      intro w6 hw6
      have HE := Lib.hid (HBX.out.trans ((ext_end hw6).mono HBX.out.size))
      clear hw6 X0 X1 X2 X3 X4 X6 X7 X8 C1 C2 q1
      go_wp2
      go_ret
      exact ⟨by rw [HM.out]; rfl, HE.out⟩
    · go_wp2_with fail
      rw [HW5.out]
      go_wp2_with fail
      refine wp_region_ext (by kernel_rfl) (by kernel_rfl) ?_
      repeat (go_big_quiet_step (first
        | (go_at_call 43; with_reducible exact Calls.ext_of (C1.out _))
        | (go_at_call 15; with_reducible exact Calls.ext_of (C2.out _)) | fail))
      refine wpQuiet_nil ?_
      intro w6 hw6
      have HE := Lib.hid (HBX.out.trans ((ext_end hw6).mono HBX.out.size))
      clear hw6 X0 X1 X2 X3 X4 X6 X7 X8 C1 C2 q1
      go_wp2
      go_ret
      exact ⟨by rw [HM.out]; rfl, HE.out⟩
  · have q2 : (ed == 0) = false := beq_eq_false_iff_ne.2 he
    go_wp2_with fail
    rw [HW5.out]
    go_wp2_with fail
    refine wp_region_ext (by kernel_rfl) (by kernel_rfl) ?_
    repeat (go_big_quiet_step (first
      | (go_at_call 43; with_reducible exact Calls.ext_of (C1.out _))
      | (go_at_call 15; with_reducible exact Calls.ext_of (C2.out _)) | fail))
    refine wpQuiet_nil ?_
    intro w6 hw6
    have HE := Lib.hid (HBX.out.trans ((ext_end hw6).mono HBX.out.size))
    clear hw6 X0 X1 X2 X3 X4 X6 X7 X8 C1 C2 q1
    go_wp2
    go_ret
    exact ⟨by rw [HM.out, decide_eq_false he]; rfl, HE.out⟩
end Go.Proofs.Ytilagblpamhmkaa
