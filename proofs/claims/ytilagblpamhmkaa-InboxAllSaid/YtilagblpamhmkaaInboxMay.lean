/-
  firth/inbox.may: what may be done.
-/
import Derived.Test.YtilagblpamhmkaaInboxIndex
import Derived.Test.YtilagblpamhmkaaMB
namespace Go.Proofs.Ytilagblpamhmkaa
open Go.RowKit
set_option linter.unusedVariables false

theorem Try.fieldDot0 (a b : Value) (w : World) : (Instr.field 39 (.agg #[a, b]) 0).run Try.prog w = .ok a w := by kernel_rfl
set_option maxHeartbeats 4000000 in
set_option maxRecDepth 100000 in
theorem may1_any (w : World) (v : List Int) (x : Fa) (ab : Nat) (Av : Option Addr) (nv cv : Nat) (A : Option Addr) (n c : Nat) (sl : Value) (hab : w.heap[ab]? = some (.cells #[.slice Av nv cv] 23 (0, 0))) (hsv : SlI w Av nv v) (hnv : nv ≤ 140737488351232) (hv : SlV w A n x.rc.vers) (h1 : x.rc.vers.length = 1) :
    Calls Try.prog 49 #[.agg #[.int .i64 x.src, .int .i64 x.seq, .string x.rc.key, .slice A n c, sl], .pointer (some ⟨ab, 0, none⟩)] w (ValE w (.bool (mayB v x))) := by
  have bA : Below w.heap.size w (w.alloc (.cells #[.int .i64 x.src, .int .i64 x.seq, .string x.rc.key, .slice A n c, sl] 35)) := (Below.refl _ _).alloc (Nat.le_refl _) _
  have kA := heap_alloc_new w (.cells #[.int .i64 x.src, .int .i64 x.seq, .string x.rc.key, .slice A n c, sl] 35)
  have kB := (bA.block _ (lt_of_block hab)).trans hab
  have hsv1 : SlI (w.alloc (.cells #[.int .i64 x.src, .int .i64 x.seq, .string x.rc.key, .slice A n c, sl] 35)) Av nv v := Sl.below hsv bA
  have hv1 := hv.below bA
  have hxl : w.heap.size < (w.alloc (.cells #[.int .i64 x.src, .int .i64 x.seq, .string x.rc.key, .slice A n c, sl] 35)).heap.size := by simp
  obtain ⟨W1, hW1⟩ : ∃ W1, w.alloc (.cells #[.int .i64 x.src, .int .i64 x.seq, .string x.rc.key, .slice A n c, sl] 35) = W1 := ⟨_, rfl⟩
  rw [hW1] at bA kA kB hsv1 hv1 hxl
  have HW1 := Lib.hid hW1
  have HB := Lib.hid bA
  have HSS := Lib.hid (fun (W' : World) (bl : Below W1.heap.size W1 W') => And.intro ((bl.cell (p := ⟨ab, 0, none⟩) (lt_of_block kB)).trans (row_cell (j := 0) kB rfl)) (And.intro ((bl.cell (p := ⟨w.heap.size, 0, none⟩) hxl).trans (row_cell (j := 0) kA rfl)) (And.intro ((bl.cell (p := ⟨w.heap.size, 1, none⟩) hxl).trans (row_cell (j := 1) kA rfl)) (And.intro ((bl.cell (p := ⟨w.heap.size, 2, none⟩) hxl).trans (row_cell (j := 2) kA rfl)) (And.intro ((bl.cell (p := ⟨w.heap.size, 3, none⟩) hxl).trans (row_cell (j := 3) kA rfl)) (And.intro ((bl.cell (p := ⟨w.heap.size, 4, none⟩) hxl).trans (row_cell (j := 4) kA rfl)) bl))))))
  have CD := Lib.hid (fun (W' : World) (bl : Below W1.heap.size W1 W') => dotF_any W' x A n c sl (hv1.below bl) h1)
  have CN := Lib.hid (fun (W' : World) (bl : Below W1.heap.size W1 W') => next_any Av nv cv v x.ver.s W' (Sl.below hsv1 bl) hnv)
  have CH := Lib.hid (fun (W' : World) (bl : Below W1.heap.size W1 W') => And.intro (show SlI W' Av nv v from Sl.below hsv1 bl) (hv1.below bl))
  have H1 := Lib.hid h1
  have HNV := Lib.hid hnv
  obtain ⟨⟨sd, nd, ed⟩, hN⟩ : ∃ t, nextOf v x.ver.s = t := ⟨_, rfl⟩
  rw [hN] at CN
  have HN := Lib.hid hN
  clear hab hsv hv h1 bA kA kB hsv1 hv1 hW1 hnv hN
  go_enter Try.func49, Try.ntmps49
  go_wp2_with fail
  rw [HW1.out]
  refine wp_region_noPanic ?_
  refine wp_region_held_drew (S := (fun w' => w'.cell? ⟨ab, 0, none⟩ = some (.slice Av nv cv) ∧ w'.cell? ⟨w.heap.size, 0, none⟩ = some (.int .i64 x.src) ∧ w'.cell? ⟨w.heap.size, 1, none⟩ = some (.int .i64 x.seq) ∧ w'.cell? ⟨w.heap.size, 2, none⟩ = some (.string x.rc.key) ∧ w'.cell? ⟨w.heap.size, 3, none⟩ = some (.slice A n c) ∧ w'.cell? ⟨w.heap.size, 4, none⟩ = some sl ∧ Below W1.heap.size W1 w')) (by kernel_rfl) ?_ (fun hHeld => ?_)
  · exact HSS.out _ (Below.refl _ _).drew
  first
    | (refine wpAnyH_take (i := 0) (oi := _) (v := undef) (dropAt rfl) (by kernel_rfl) (by kernel_rfl) (by kernel_rfl) (fun _ _ _ h => h) (Or.inr ⟨by rfl, rfl⟩) (by assumption) ?_)
    | (refine wpAnyH_take (i := 0) (oi := _) (v := ?_) (dropAt rfl) (by kernel_rfl) (by kernel_rfl) (by kernel_rfl) (fun _ _ _ h => h) (Or.inl ⟨by rfl, ?_⟩) (by assumption) ?_; rotate_left; (focus (intro w2 hSw; (try dsimp only at hSw); go_simp; try with_reducible rfl)))
    | fail
  try simp only [Act.put, List.setIfInBounds_toArray, List.set_cons_zero, List.set_cons_succ]
  first
    | (refine wpAnyH_take (i := 1) (oi := _) (v := undef) (dropAt rfl) (by kernel_rfl) (by kernel_rfl) (by kernel_rfl) (fun _ _ _ h => h) (Or.inr ⟨by rfl, rfl⟩) (by assumption) ?_)
    | (refine wpAnyH_take (i := 1) (oi := _) (v := ?_) (dropAt rfl) (by kernel_rfl) (by kernel_rfl) (by kernel_rfl) (fun _ _ _ h => h) (Or.inl ⟨by rfl, ?_⟩) (by assumption) ?_; rotate_left; (focus (intro w2 hSw; (try dsimp only at hSw); go_simp; try with_reducible rfl)))
    | fail
  try simp only [Act.put, List.setIfInBounds_toArray, List.set_cons_zero, List.set_cons_succ]
  have HH0 := Lib.hid hHeld.2.2.2.2.2.2
  refine wpAnyH_ready (rs := [2, 8]) (by kernel_rfl) (by simp) ?_
  refine AllReadyH.cons (o := _) (dropAt rfl) (fun K hK => ?_) (AllReadyH.cons (o := _) (dropAt rfl) (fun K hK => ?_) AllReadyH.nil)
  · go_simp
    go_at_call 33
    refine (CD.out _ HH0.out).mono ?_
    rintro e w3 ⟨rfl, b3⟩
    have HH1 := Lib.hid (HH0.out.trans (b3.mono HH0.out.size))
    clear b3
    refine hK.out _ _ ?_ (fun hHeld => ?_)
    · exact HSS.out _ HH1.out
    clear hK K
    refine wpAnyH_take (i := 3) (oi := _) (v := .int .i64 x.ver.s) (dropAt rfl) (by kernel_rfl) (by kernel_rfl) (by kernel_rfl) (fun _ _ _ h => h) (Or.inl ⟨by rfl, ?_⟩) (by assumption) ?_
    · intro w2 hSw
      try dsimp only at hSw
      try go_simp
      rw [Try.fieldDot0]
      rfl
    refine wpAnyH_ready (rs := [4, 8]) (by kernel_rfl) (by simp) ?_
    refine AllReadyH.cons (o := _) (dropAt rfl) (fun K hK => ?_) (AllReadyH.cons (o := _) (dropAt rfl) (fun K hK => ?_) AllReadyH.nil)
    · go_simp
      go_at_call 50
      refine (CN.out _ HH1.out).mono ?_
      rintro e w4 ⟨rfl, b4⟩
      have HH2 := Lib.hid (HH1.out.trans (b4.mono HH1.out.size))
      clear b4
      refine hK.out _ _ ?_ (fun hHeld => ?_)
      · exact HSS.out _ HH2.out
      clear hK K
      first
        | (refine wpAnyH_take (i := 5) (oi := _) (v := undef) (dropAt rfl) (by kernel_rfl) (by kernel_rfl) (by kernel_rfl) (fun _ _ _ h => h) (Or.inr ⟨by rfl, rfl⟩) (by assumption) ?_)
        | (refine wpAnyH_take (i := 5) (oi := _) (v := ?_) (dropAt rfl) (by kernel_rfl) (by kernel_rfl) (by kernel_rfl) (fun _ _ _ h => h) (Or.inl ⟨by rfl, ?_⟩) (by assumption) ?_; rotate_left; (focus (intro w2 hSw; (try dsimp only at hSw); go_simp; try with_reducible rfl)))
        | fail
      try simp only [Act.put, List.setIfInBounds_toArray, List.set_cons_zero, List.set_cons_succ]
      first
        | (refine wpAnyH_take (i := 6) (oi := _) (v := undef) (dropAt rfl) (by kernel_rfl) (by kernel_rfl) (by kernel_rfl) (fun _ _ _ h => h) (Or.inr ⟨by rfl, rfl⟩) (by assumption) ?_)
        | (refine wpAnyH_take (i := 6) (oi := _) (v := ?_) (dropAt rfl) (by kernel_rfl) (by kernel_rfl) (by kernel_rfl) (fun _ _ _ h => h) (Or.inl ⟨by rfl, ?_⟩) (by assumption) ?_; rotate_left; (focus (intro w2 hSw; (try dsimp only at hSw); go_simp; try with_reducible rfl)))
        | fail
      try simp only [Act.put, List.setIfInBounds_toArray, List.set_cons_zero, List.set_cons_succ]
      first
        | (refine wpAnyH_take (i := 7) (oi := _) (v := undef) (dropAt rfl) (by kernel_rfl) (by kernel_rfl) (by kernel_rfl) (fun _ _ _ h => h) (Or.inr ⟨by rfl, rfl⟩) (by assumption) ?_)
        | (refine wpAnyH_take (i := 7) (oi := _) (v := ?_) (dropAt rfl) (by kernel_rfl) (by kernel_rfl) (by kernel_rfl) (fun _ _ _ h => h) (Or.inl ⟨by rfl, ?_⟩) (by assumption) ?_; rotate_left; (focus (intro w2 hSw; (try dsimp only at hSw); go_simp; try with_reducible rfl)))
        | fail
      try simp only [Act.put, List.setIfInBounds_toArray, List.set_cons_zero, List.set_cons_succ]
      refine wpAnyH_ready (rs := [8]) (by kernel_rfl) (by simp) ?_
      refine AllReadyH.cons (o := _) (dropAt rfl) (fun K hK => ?_) AllReadyH.nil
      go_simp
      refine hK.out _ _ ?_ (fun hHeld => ?_)
      · exact HSS.out _ (HH2.out.alloc HH2.out.size _)
      clear hK K
      try simp only [Act.put, List.setIfInBounds_toArray, List.set_cons_zero, List.set_cons_succ]
      have kN := heap_alloc_new w4 (.cells #[.int .i64 0, .int .i64 0] 39)
      have y0 := row_cell (j := 0) kN rfl
      have y1 := row_cell (j := 1) kN rfl
      have f0 := fun j => frozen_of_row _ w4.heap.size j _ _ kN
      refine wpAnyH_ready (rs := [9]) (by kernel_rfl) (by simp) ?_
      refine AllReadyH.cons (o := _) (dropAt rfl) (fun K hK => ?_) AllReadyH.nil
      go_simp
      refine hK.out _ _ ?_ (fun hHeld => ?_)
      · exact HSS.out _ (HH2.out.alloc HH2.out.size _)
      clear hK K
      try simp only [Act.put, List.setIfInBounds_toArray, List.set_cons_zero, List.set_cons_succ]
      first
        | (refine wpAnyH_take (i := 10) (oi := _) (v := undef) (dropAt rfl) (by kernel_rfl) (by kernel_rfl) (by kernel_rfl) (fun _ _ _ h => h) (Or.inr ⟨by rfl, rfl⟩) (by assumption) ?_)
        | (refine wpAnyH_take (i := 10) (oi := _) (v := ?_) (dropAt rfl) (by kernel_rfl) (by kernel_rfl) (by kernel_rfl) (fun _ _ _ h => h) (Or.inl ⟨by rfl, ?_⟩) (by assumption) ?_; rotate_left; (focus (intro w2 hSw; (try dsimp only at hSw); go_simp; try with_reducible rfl)))
        | fail
      try simp only [Act.put, List.setIfInBounds_toArray, List.set_cons_zero, List.set_cons_succ]
      refine wpAnyH_done (by kernel_rfl) ?_ _
      refine NoPanic.normal ?_
      clear kN y0 y1 f0
      have kN := And.intro (HH2.out.alloc HH2.out.size (.cells #[.int .i64 sd, .int .i64 nd] 39)) (heap_alloc_new w4 (.cells #[.int .i64 sd, .int .i64 nd] 39))
      obtain ⟨W5, hW5⟩ : ∃ W5, w4.alloc (.cells #[.int .i64 sd, .int .i64 nd] 39) = W5 := ⟨_, rfl⟩
      rw [hW5] at kN
      rw [hW5]
      obtain ⟨HB5, kD⟩ := kN
      clear hW5
      obtain ⟨z1, z2, z3, z4, z5, z6, -⟩ := HSS.out _ HB5
      have X0 := Ext.cell z1
      have X1 := Ext.cell z2
      have X2 := Ext.cell z3
      have X3 := Ext.cell z4
      have X4 := Ext.cell z5
      have X5 := Ext.cell z6
      have X6 := Ext.cell (row_cell (j := 0) kD rfl)
      have X7 := Ext.cell (row_cell (j := 1) kD rfl)
      obtain ⟨bq, oq, A2, n2, c2, hA, hn, -, -, y2, hvr⟩ := ver_at (CH.out _ HB5).2 H1.out
      subst hA hn
      have X8 := Ext.cell y2
      have i0 : (0 : Int) < ((1 : Nat) : Int) := by decide
      have C1 := Lib.hid (fun z : Ext W5 => CD.out _ (HB5.trans (z.below.mono HB5.size)))
      have C2 := Lib.hid (fun z : Ext W5 => holds_any Av nv cv v A2 n2 c2 x.ver.past z.w (Sl.below (CH.out _ HB5).1 z.below) HNV.out (Sl.below hvr.sl z.below) hvr.n9 hvr.wfp)
      have HBX := Lib.hid (HB.out.trans (HB5.mono HB.out.size))
      clear HB5 kD z1 z2 z3 z4 z5 z6 y2 hvr HSS CN CH hHeld
      obtain ⟨hb, hhb⟩ : ∃ hb, holdsB v x.ver.past = hb := ⟨_, rfl⟩
      obtain ⟨db, hdb⟩ : ∃ db, decide (sd = x.ver.s ∧ nd = x.ver.n) = db := ⟨_, rfl⟩
      have q1 := eq_dot sd nd x.ver.s x.ver.n
      rw [hdb] at q1
      rw [hhb] at C2
      have HM := Lib.hid (show mayB v x = (decide (ed = 0) && (db && hb)) from by unfold mayB; rw [HN.out, hhb, ← hdb])
      clear hdb hhb
      by_cases he : ed = 0
      · subst he
        cases db
        · go_wp2_with fail
          refine wp_region_ext (by kernel_rfl) (by kernel_rfl) ?_
          repeat (go_big_quiet_step (first | (go_at_call 33; with_reducible exact Calls.ext_of (C1.out _)) | fail))
          refine wpQuiet_nil ?_
          intro w6 hw6
          have HE := Lib.hid (HBX.out.trans ((ext_end hw6).mono HBX.out.size))
          clear hw6 X0 X1 X2 X3 X4 X5 X6 X7 X8 C1 C2 q1
          go_wp2
          go_ret
          exact ⟨by rw [HM.out]; rfl, HE.out⟩
        · go_wp2_with fail
          refine wp_region_ext (by kernel_rfl) (by kernel_rfl) ?_
          repeat (go_big_quiet_step (first
            | (go_at_call 33; with_reducible exact Calls.ext_of (C1.out _))
            | (go_at_call 51; with_reducible exact Calls.ext_of (C2.out _)) | fail))
          refine wpQuiet_nil ?_
          intro w6 hw6
          have HE := Lib.hid (HBX.out.trans ((ext_end hw6).mono HBX.out.size))
          clear hw6 X0 X1 X2 X3 X4 X5 X6 X7 X8 C1 C2 q1
          go_wp2
          go_ret
          exact ⟨by rw [HM.out]; rfl, HE.out⟩
      · have q2 : (ed == 0) = false := beq_eq_false_iff_ne.2 he
        go_wp2_with fail
        refine wp_region_ext (by kernel_rfl) (by kernel_rfl) ?_
        repeat (go_big_quiet_step (fail))
        refine wpQuiet_nil ?_
        intro w6 hw6
        have HE := Lib.hid (HBX.out.trans ((ext_end hw6).mono HBX.out.size))
        clear hw6 X0 X1 X2 X3 X4 X5 X6 X7 X8 C1 C2 q1 q2
        go_wp2
        go_ret
        exact ⟨by rw [HM.out, decide_eq_false he]; rfl, HE.out⟩
    · go_simp
      refine hK.out _ _ ?_ (fun hHeld => ?_)
      · exact HSS.out _ (HH1.out.alloc HH1.out.size _)
      clear hK K
      have kN : (w3.alloc (.cells #[.int .i64 0, .int .i64 0] 39)).heap[w3.heap.size]? = _ := heap_alloc_new w3 (.cells #[.int .i64 0, .int .i64 0] 39)
      have HHN := Lib.hid (show Below W1.heap.size W1 (w3.alloc (.cells #[.int .i64 0, .int .i64 0] 39)) from HH1.out.alloc HH1.out.size (.cells #[.int .i64 0, .int .i64 0] 39))
      obtain ⟨wn, hwn⟩ : ∃ wn, w3.alloc (.cells #[.int .i64 0, .int .i64 0] 39) = wn := ⟨_, rfl⟩
      obtain ⟨gn, hgn⟩ : ∃ gn, w3.heap.size = gn := ⟨_, rfl⟩
      have hgs : W1.heap.size ≤ gn := by rw [← hgn]; exact HH1.out.size
      rw [hwn] at kN HHN ⊢
      rw [hgn] at kN ⊢
      clear hwn hgn
      refine wpAnyH_ready (rs := [4]) (by kernel_rfl) (by simp) ?_
      refine AllReadyH.cons (o := _) (dropAt rfl) (fun K hK => ?_) AllReadyH.nil
      go_simp
      go_at_call 50
      refine (CN.out _ HHN.out).mono ?_
      rintro e w4 ⟨rfl, b4⟩
      have HH2 := Lib.hid (HHN.out.trans (b4.mono HHN.out.size))
      have kN := (b4.block _ (lt_of_block kN)).trans kN
      clear b4
      refine hK.out _ _ ?_ (fun hHeld => ?_)
      · exact HSS.out _ HH2.out
      clear hK K
      first
        | (refine wpAnyH_take (i := 5) (oi := _) (v := undef) (dropAt rfl) (by kernel_rfl) (by kernel_rfl) (by kernel_rfl) (fun _ _ _ h => h) (Or.inr ⟨by rfl, rfl⟩) (by assumption) ?_)
        | (refine wpAnyH_take (i := 5) (oi := _) (v := ?_) (dropAt rfl) (by kernel_rfl) (by kernel_rfl) (by kernel_rfl) (fun _ _ _ h => h) (Or.inl ⟨by rfl, ?_⟩) (by assumption) ?_; rotate_left; (focus (intro w2 hSw; (try dsimp only at hSw); go_simp; try with_reducible rfl)))
        | fail
      try simp only [Act.put, List.setIfInBounds_toArray, List.set_cons_zero, List.set_cons_succ]
      first
        | (refine wpAnyH_take (i := 6) (oi := _) (v := undef) (dropAt rfl) (by kernel_rfl) (by kernel_rfl) (by kernel_rfl) (fun _ _ _ h => h) (Or.inr ⟨by rfl, rfl⟩) (by assumption) ?_)
        | (refine wpAnyH_take (i := 6) (oi := _) (v := ?_) (dropAt rfl) (by kernel_rfl) (by kernel_rfl) (by kernel_rfl) (fun _ _ _ h => h) (Or.inl ⟨by rfl, ?_⟩) (by assumption) ?_; rotate_left; (focus (intro w2 hSw; (try dsimp only at hSw); go_simp; try with_reducible rfl)))
        | fail
      try simp only [Act.put, List.setIfInBounds_toArray, List.set_cons_zero, List.set_cons_succ]
      first
        | (refine wpAnyH_take (i := 7) (oi := _) (v := undef) (dropAt rfl) (by kernel_rfl) (by kernel_rfl) (by kernel_rfl) (fun _ _ _ h => h) (Or.inr ⟨by rfl, rfl⟩) (by assumption) ?_)
        | (refine wpAnyH_take (i := 7) (oi := _) (v := ?_) (dropAt rfl) (by kernel_rfl) (by kernel_rfl) (by kernel_rfl) (fun _ _ _ h => h) (Or.inl ⟨by rfl, ?_⟩) (by assumption) ?_; rotate_left; (focus (intro w2 hSw; (try dsimp only at hSw); go_simp; try with_reducible rfl)))
        | fail
      try simp only [Act.put, List.setIfInBounds_toArray, List.set_cons_zero, List.set_cons_succ]
      have y0 := row_cell (j := 0) kN rfl
      have y1 := row_cell (j := 1) kN rfl
      have f0 := fun j => frozen_of_row _ (gn) j _ _ kN
      have HB3 := Lib.hid ((HH2.out.setCell (p := ⟨gn, 0, none⟩) hgs (.int .i64 sd)).setCell (p := ⟨gn, 1, none⟩) hgs (.int .i64 nd))
      refine wpAnyH_ready (rs := [9]) (by kernel_rfl) (by simp) ?_
      refine AllReadyH.cons (o := _) (dropAt rfl) (fun K hK => ?_) AllReadyH.nil
      go_simp
      refine hK.out _ _ ?_ (fun hHeld => ?_)
      · exact HSS.out _ HB3.out
      clear hK K
      try simp only [Act.put, List.setIfInBounds_toArray, List.set_cons_zero, List.set_cons_succ]
      first
        | (refine wpAnyH_take (i := 10) (oi := _) (v := undef) (dropAt rfl) (by kernel_rfl) (by kernel_rfl) (by kernel_rfl) (fun _ _ _ h => h) (Or.inr ⟨by rfl, rfl⟩) (by assumption) ?_)
        | (refine wpAnyH_take (i := 10) (oi := _) (v := ?_) (dropAt rfl) (by kernel_rfl) (by kernel_rfl) (by kernel_rfl) (fun _ _ _ h => h) (Or.inl ⟨by rfl, ?_⟩) (by assumption) ?_; rotate_left; (focus (intro w2 hSw; (try dsimp only at hSw); go_simp; try with_reducible rfl)))
        | fail
      try simp only [Act.put, List.setIfInBounds_toArray, List.set_cons_zero, List.set_cons_succ]
      refine wpAnyH_done (by kernel_rfl) ?_ _
      refine NoPanic.normal ?_
      have kM := (heap_setCell_same _ (gn) 1 _ _ (.int .i64 nd) (heap_setCell_same w4 (gn) 0 _ _ (.int .i64 sd) kN))
      clear kN y0 y1 f0
      have kN := And.intro HB3.out kM
      obtain ⟨W5, hW5⟩ : ∃ W5, (w4.setCell ⟨gn, 0, none⟩ (.int .i64 sd)).setCell ⟨gn, 1, none⟩ (.int .i64 nd) = W5 := ⟨_, rfl⟩
      rw [hW5] at kN
      rw [hW5]
      obtain ⟨HB5, kD⟩ := kN
      clear hW5
      obtain ⟨z1, z2, z3, z4, z5, z6, -⟩ := HSS.out _ HB5
      have X0 := Ext.cell z1
      have X1 := Ext.cell z2
      have X2 := Ext.cell z3
      have X3 := Ext.cell z4
      have X4 := Ext.cell z5
      have X5 := Ext.cell z6
      have X6 := Ext.cell (row_cell (j := 0) kD rfl)
      have X7 := Ext.cell (row_cell (j := 1) kD rfl)
      obtain ⟨bq, oq, A2, n2, c2, hA, hn, -, -, y2, hvr⟩ := ver_at (CH.out _ HB5).2 H1.out
      subst hA hn
      have X8 := Ext.cell y2
      have i0 : (0 : Int) < ((1 : Nat) : Int) := by decide
      have C1 := Lib.hid (fun z : Ext W5 => CD.out _ (HB5.trans (z.below.mono HB5.size)))
      have C2 := Lib.hid (fun z : Ext W5 => holds_any Av nv cv v A2 n2 c2 x.ver.past z.w (Sl.below (CH.out _ HB5).1 z.below) HNV.out (Sl.below hvr.sl z.below) hvr.n9 hvr.wfp)
      have HBX := Lib.hid (HB.out.trans (HB5.mono HB.out.size))
      clear HB5 kD z1 z2 z3 z4 z5 z6 y2 hvr HSS CN CH hHeld
      obtain ⟨hb, hhb⟩ : ∃ hb, holdsB v x.ver.past = hb := ⟨_, rfl⟩
      obtain ⟨db, hdb⟩ : ∃ db, decide (sd = x.ver.s ∧ nd = x.ver.n) = db := ⟨_, rfl⟩
      have q1 := eq_dot sd nd x.ver.s x.ver.n
      rw [hdb] at q1
      rw [hhb] at C2
      have HM := Lib.hid (show mayB v x = (decide (ed = 0) && (db && hb)) from by unfold mayB; rw [HN.out, hhb, ← hdb])
      clear hdb hhb
      by_cases he : ed = 0
      · subst he
        cases db
        · go_wp2_with fail
          refine wp_region_ext (by kernel_rfl) (by kernel_rfl) ?_
          repeat (go_big_quiet_step (first | (go_at_call 33; with_reducible exact Calls.ext_of (C1.out _)) | fail))
          refine wpQuiet_nil ?_
          intro w6 hw6
          have HE := Lib.hid (HBX.out.trans ((ext_end hw6).mono HBX.out.size))
          clear hw6 X0 X1 X2 X3 X4 X5 X6 X7 X8 C1 C2 q1
          go_wp2
          go_ret
          exact ⟨by rw [HM.out]; rfl, HE.out⟩
        · go_wp2_with fail
          refine wp_region_ext (by kernel_rfl) (by kernel_rfl) ?_
          repeat (go_big_quiet_step (first
            | (go_at_call 33; with_reducible exact Calls.ext_of (C1.out _))
            | (go_at_call 51; with_reducible exact Calls.ext_of (C2.out _)) | fail))
          refine wpQuiet_nil ?_
          intro w6 hw6
          have HE := Lib.hid (HBX.out.trans ((ext_end hw6).mono HBX.out.size))
          clear hw6 X0 X1 X2 X3 X4 X5 X6 X7 X8 C1 C2 q1
          go_wp2
          go_ret
          exact ⟨by rw [HM.out]; rfl, HE.out⟩
      · have q2 : (ed == 0) = false := beq_eq_false_iff_ne.2 he
        go_wp2_with fail
        refine wp_region_ext (by kernel_rfl) (by kernel_rfl) ?_
        repeat (go_big_quiet_step (fail))
        refine wpQuiet_nil ?_
        intro w6 hw6
        have HE := Lib.hid (HBX.out.trans ((ext_end hw6).mono HBX.out.size))
        clear hw6 X0 X1 X2 X3 X4 X5 X6 X7 X8 C1 C2 q1 q2
        go_wp2
        go_ret
        exact ⟨by rw [HM.out, decide_eq_false he]; rfl, HE.out⟩
  · go_simp
    refine hK.out _ _ ?_ (fun hHeld => ?_)
    · exact HSS.out _ (HH0.out.alloc HH0.out.size _)
    clear hK K
    have kN := heap_alloc_new W1 (.cells #[.int .i64 0, .int .i64 0] 39)
    have HHN := Lib.hid (show Below W1.heap.size W1 (W1.alloc (.cells #[.int .i64 0, .int .i64 0] 39)).drew from HH0.out.alloc HH0.out.size (.cells #[.int .i64 0, .int .i64 0] 39))
    have hgs : W1.heap.size ≤ W1.heap.size := Nat.le_refl _
    obtain ⟨wn, hwn⟩ : ∃ wn, (W1.alloc (.cells #[.int .i64 0, .int .i64 0] 39)).drew = wn := ⟨_, rfl⟩
    have kN : wn.heap[W1.heap.size]? = some (.cells #[.int .i64 0, .int .i64 0] 39 (0, 0)) := by rw [← hwn]; exact kN
    rw [hwn] at HHN ⊢
    clear hwn
    refine wpAnyH_ready (rs := [2]) (by kernel_rfl) (by simp) ?_
    refine AllReadyH.cons (o := _) (dropAt rfl) (fun K hK => ?_) AllReadyH.nil
    go_simp
    go_at_call 33
    refine (CD.out _ HHN.out).mono ?_
    rintro e w3 ⟨rfl, b3⟩
    have HH1 := Lib.hid (HHN.out.trans (b3.mono HHN.out.size))
    have kN := (b3.block _ (lt_of_block kN)).trans kN
    clear b3
    refine hK.out _ _ ?_ (fun hHeld => ?_)
    · exact HSS.out _ HH1.out
    clear hK K
    refine wpAnyH_take (i := 3) (oi := _) (v := .int .i64 x.ver.s) (dropAt rfl) (by kernel_rfl) (by kernel_rfl) (by kernel_rfl) (fun _ _ _ h => h) (Or.inl ⟨by rfl, ?_⟩) (by assumption) ?_
    · intro w2 hSw
      try dsimp only at hSw
      try go_simp
      rw [Try.fieldDot0]
      rfl
    have HHN := HH1
    refine wpAnyH_ready (rs := [4]) (by kernel_rfl) (by simp) ?_
    refine AllReadyH.cons (o := _) (dropAt rfl) (fun K hK => ?_) AllReadyH.nil
    go_simp
    go_at_call 50
    refine (CN.out _ HHN.out).mono ?_
    rintro e w4 ⟨rfl, b4⟩
    have HH2 := Lib.hid (HHN.out.trans (b4.mono HHN.out.size))
    have kN := (b4.block _ (lt_of_block kN)).trans kN
    clear b4
    refine hK.out _ _ ?_ (fun hHeld => ?_)
    · exact HSS.out _ HH2.out
    clear hK K
    first
      | (refine wpAnyH_take (i := 5) (oi := _) (v := undef) (dropAt rfl) (by kernel_rfl) (by kernel_rfl) (by kernel_rfl) (fun _ _ _ h => h) (Or.inr ⟨by rfl, rfl⟩) (by assumption) ?_)
      | (refine wpAnyH_take (i := 5) (oi := _) (v := ?_) (dropAt rfl) (by kernel_rfl) (by kernel_rfl) (by kernel_rfl) (fun _ _ _ h => h) (Or.inl ⟨by rfl, ?_⟩) (by assumption) ?_; rotate_left; (focus (intro w2 hSw; (try dsimp only at hSw); go_simp; try with_reducible rfl)))
      | fail
    try simp only [Act.put, List.setIfInBounds_toArray, List.set_cons_zero, List.set_cons_succ]
    first
      | (refine wpAnyH_take (i := 6) (oi := _) (v := undef) (dropAt rfl) (by kernel_rfl) (by kernel_rfl) (by kernel_rfl) (fun _ _ _ h => h) (Or.inr ⟨by rfl, rfl⟩) (by assumption) ?_)
      | (refine wpAnyH_take (i := 6) (oi := _) (v := ?_) (dropAt rfl) (by kernel_rfl) (by kernel_rfl) (by kernel_rfl) (fun _ _ _ h => h) (Or.inl ⟨by rfl, ?_⟩) (by assumption) ?_; rotate_left; (focus (intro w2 hSw; (try dsimp only at hSw); go_simp; try with_reducible rfl)))
      | fail
    try simp only [Act.put, List.setIfInBounds_toArray, List.set_cons_zero, List.set_cons_succ]
    first
      | (refine wpAnyH_take (i := 7) (oi := _) (v := undef) (dropAt rfl) (by kernel_rfl) (by kernel_rfl) (by kernel_rfl) (fun _ _ _ h => h) (Or.inr ⟨by rfl, rfl⟩) (by assumption) ?_)
      | (refine wpAnyH_take (i := 7) (oi := _) (v := ?_) (dropAt rfl) (by kernel_rfl) (by kernel_rfl) (by kernel_rfl) (fun _ _ _ h => h) (Or.inl ⟨by rfl, ?_⟩) (by assumption) ?_; rotate_left; (focus (intro w2 hSw; (try dsimp only at hSw); go_simp; try with_reducible rfl)))
      | fail
    try simp only [Act.put, List.setIfInBounds_toArray, List.set_cons_zero, List.set_cons_succ]
    have y0 := row_cell (j := 0) kN rfl
    have y1 := row_cell (j := 1) kN rfl
    have f0 := fun j => frozen_of_row _ (W1.heap.size) j _ _ kN
    have HB3 := Lib.hid ((HH2.out.setCell (p := ⟨W1.heap.size, 0, none⟩) hgs (.int .i64 sd)).setCell (p := ⟨W1.heap.size, 1, none⟩) hgs (.int .i64 nd))
    refine wpAnyH_ready (rs := [9]) (by kernel_rfl) (by simp) ?_
    refine AllReadyH.cons (o := _) (dropAt rfl) (fun K hK => ?_) AllReadyH.nil
    go_simp
    refine hK.out _ _ ?_ (fun hHeld => ?_)
    · exact HSS.out _ HB3.out
    clear hK K
    try simp only [Act.put, List.setIfInBounds_toArray, List.set_cons_zero, List.set_cons_succ]
    first
      | (refine wpAnyH_take (i := 10) (oi := _) (v := undef) (dropAt rfl) (by kernel_rfl) (by kernel_rfl) (by kernel_rfl) (fun _ _ _ h => h) (Or.inr ⟨by rfl, rfl⟩) (by assumption) ?_)
      | (refine wpAnyH_take (i := 10) (oi := _) (v := ?_) (dropAt rfl) (by kernel_rfl) (by kernel_rfl) (by kernel_rfl) (fun _ _ _ h => h) (Or.inl ⟨by rfl, ?_⟩) (by assumption) ?_; rotate_left; (focus (intro w2 hSw; (try dsimp only at hSw); go_simp; try with_reducible rfl)))
      | fail
    try simp only [Act.put, List.setIfInBounds_toArray, List.set_cons_zero, List.set_cons_succ]
    refine wpAnyH_done (by kernel_rfl) ?_ _
    refine NoPanic.normal ?_
    have kM := (heap_setCell_same _ (W1.heap.size) 1 _ _ (.int .i64 nd) (heap_setCell_same w4 (W1.heap.size) 0 _ _ (.int .i64 sd) kN))
    clear kN y0 y1 f0
    have kN := And.intro HB3.out kM
    obtain ⟨W5, hW5⟩ : ∃ W5, (w4.setCell ⟨W1.heap.size, 0, none⟩ (.int .i64 sd)).setCell ⟨W1.heap.size, 1, none⟩ (.int .i64 nd) = W5 := ⟨_, rfl⟩
    rw [hW5] at kN
    rw [hW5]
    obtain ⟨HB5, kD⟩ := kN
    clear hW5
    obtain ⟨z1, z2, z3, z4, z5, z6, -⟩ := HSS.out _ HB5
    have X0 := Ext.cell z1
    have X1 := Ext.cell z2
    have X2 := Ext.cell z3
    have X3 := Ext.cell z4
    have X4 := Ext.cell z5
    have X5 := Ext.cell z6
    have X6 := Ext.cell (row_cell (j := 0) kD rfl)
    have X7 := Ext.cell (row_cell (j := 1) kD rfl)
    obtain ⟨bq, oq, A2, n2, c2, hA, hn, -, -, y2, hvr⟩ := ver_at (CH.out _ HB5).2 H1.out
    subst hA hn
    have X8 := Ext.cell y2
    have i0 : (0 : Int) < ((1 : Nat) : Int) := by decide
    have C1 := Lib.hid (fun z : Ext W5 => CD.out _ (HB5.trans (z.below.mono HB5.size)))
    have C2 := Lib.hid (fun z : Ext W5 => holds_any Av nv cv v A2 n2 c2 x.ver.past z.w (Sl.below (CH.out _ HB5).1 z.below) HNV.out (Sl.below hvr.sl z.below) hvr.n9 hvr.wfp)
    have HBX := Lib.hid (HB.out.trans (HB5.mono HB.out.size))
    clear HB5 kD z1 z2 z3 z4 z5 z6 y2 hvr HSS CN CH hHeld
    obtain ⟨hb, hhb⟩ : ∃ hb, holdsB v x.ver.past = hb := ⟨_, rfl⟩
    obtain ⟨db, hdb⟩ : ∃ db, decide (sd = x.ver.s ∧ nd = x.ver.n) = db := ⟨_, rfl⟩
    have q1 := eq_dot sd nd x.ver.s x.ver.n
    rw [hdb] at q1
    rw [hhb] at C2
    have HM := Lib.hid (show mayB v x = (decide (ed = 0) && (db && hb)) from by unfold mayB; rw [HN.out, hhb, ← hdb])
    clear hdb hhb
    by_cases he : ed = 0
    · subst he
      cases db
      · go_wp2_with fail
        refine wp_region_ext (by kernel_rfl) (by kernel_rfl) ?_
        repeat (go_big_quiet_step (first | (go_at_call 33; with_reducible exact Calls.ext_of (C1.out _)) | fail))
        refine wpQuiet_nil ?_
        intro w6 hw6
        have HE := Lib.hid (HBX.out.trans ((ext_end hw6).mono HBX.out.size))
        clear hw6 X0 X1 X2 X3 X4 X5 X6 X7 X8 C1 C2 q1
        go_wp2
        go_ret
        exact ⟨by rw [HM.out]; rfl, HE.out⟩
      · go_wp2_with fail
        refine wp_region_ext (by kernel_rfl) (by kernel_rfl) ?_
        repeat (go_big_quiet_step (first
          | (go_at_call 33; with_reducible exact Calls.ext_of (C1.out _))
          | (go_at_call 51; with_reducible exact Calls.ext_of (C2.out _)) | fail))
        refine wpQuiet_nil ?_
        intro w6 hw6
        have HE := Lib.hid (HBX.out.trans ((ext_end hw6).mono HBX.out.size))
        clear hw6 X0 X1 X2 X3 X4 X5 X6 X7 X8 C1 C2 q1
        go_wp2
        go_ret
        exact ⟨by rw [HM.out]; rfl, HE.out⟩
    · have q2 : (ed == 0) = false := beq_eq_false_iff_ne.2 he
      go_wp2_with fail
      refine wp_region_ext (by kernel_rfl) (by kernel_rfl) ?_
      repeat (go_big_quiet_step (fail))
      refine wpQuiet_nil ?_
      intro w6 hw6
      have HE := Lib.hid (HBX.out.trans ((ext_end hw6).mono HBX.out.size))
      clear hw6 X0 X1 X2 X3 X4 X5 X6 X7 X8 C1 C2 q1 q2
      go_wp2
      go_ret
      exact ⟨by rw [HM.out, decide_eq_false he]; rfl, HE.out⟩
end Go.Proofs.Ytilagblpamhmkaa
