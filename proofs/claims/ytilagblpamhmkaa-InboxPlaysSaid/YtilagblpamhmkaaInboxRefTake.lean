/-
  firthref18: Take.
-/
import Derived.Test.YtilagblpamhmkaaInboxRefMay
namespace Go.Proofs.Ytilagblpamhmkaa
open Go.RowKit
set_option linter.unusedVariables false

theorem Try.infoRFar : (Try.prog.info? 61).map (fun i => (i.zero, i.size, i.bytes)) = some (some (.agg #[.int .i64 0, .int .i64 0, .string ⟨#[]⟩, .slice none 0 0, .slice none 0 0]), 5, 80) := by kernel_rfl
theorem any_hit {l : List Fa} {f x : Fa} {k : Nat} (h : l[k]? = some x) (hs : sameDot f x = true) : l.any (sameDot f) = true := List.any_eq_true.2 ⟨x, List.mem_of_getElem? h, hs⟩
theorem any_step {l : List Fa} {f x : Fa} {k : Nat} (h : l[k]? = some x) (hs : sameDot f x = false) (h0 : (l.take k).any (sameDot f) = false) : (l.take (k + 1)).any (sameDot f) = false := by
  rw [List.take_add_one, h, List.any_append, h0]
  simp [hs]
theorem grown_drew {w w' : World} {row : Option Nat} (h : w.drew.grownBy w' row) : w.grownBy w' row := ⟨h.os, h.tape, h.output, h.size, h.block⟩
section
variable {w w' : World} {fp fp' : Nat → Prop} {q : Nat} {room : Int} {l : List Fa}
set_option maxHeartbeats 20000000 in
set_option maxRecDepth 100000 in
theorem rtake_any (f : Fa) (A : Option Addr) (n c : Nat) (A2 : Option Addr) (n2 c2 : Nat) (Av : Option Addr) (nv cv : Nat) (v : List Int) (h : RInG w fp q room l) (hv : RRow w f.rc A n c) (hr : Sl w A2 n2 1 (f.route.map (Value.int .i64))) (hc2 : n2 ≤ c2) (hn2 : n2 * 8 ≤ 140737488351232) (hsv : SlI w Av nv v) (hnv : nv ≤ 140737488351232) (hl : (l.length + 1) * 80 ≤ 140737488355328) :
    Calls Try.prog 24 #[.pointer (some ⟨q, 0, none⟩), .agg #[.int .i64 f.src, .int .i64 f.seq, .string f.rc.key, .slice A n c, .slice A2 n2 c2], .slice Av nv cv] w (RITo w fp q room (takeI room l f v) (.int .i64 (takeA room l f v))) := by
  obtain ⟨i0, hi, hz0, hz1, hz2⟩ := info_parts Try.infoRFar
  obtain ⟨j0, ki, kz0, kz1, kz2⟩ := info_parts Try.infoInt'
  obtain ⟨lv, rows, hp⟩ := h.ex
  obtain ⟨A0, k0, rfl, hk0, _⟩ := own_slice hp.2.1
  have bA : Below w.heap.size w (w.alloc (.cells #[.int .i64 f.src, .int .i64 f.seq, .string f.rc.key, .slice A n c, .slice A2 n2 c2] 61)) := (Below.refl _ _).alloc (Nat.le_refl _) _
  have kA := heap_alloc_new w (.cells #[.int .i64 f.src, .int .i64 f.seq, .string f.rc.key, .slice A n c, .slice A2 n2 c2] 61)
  have hs1 : (w.alloc (.cells #[.int .i64 f.src, .int .i64 f.seq, .string f.rc.key, .slice A n c, .slice A2 n2 c2] 61)).heap.size = w.heap.size + 1 := by simp
  obtain ⟨W1, hW1⟩ : ∃ W1, w.alloc (.cells #[.int .i64 f.src, .int .i64 f.seq, .string f.rc.key, .slice A n c, .slice A2 n2 c2] 61) = W1 := ⟨_, rfl⟩
  rw [hW1] at bA kA hs1
  have hp1 := hp.kept h.inp (Kept.below (fp := fp) bA)
  have HW1 := Lib.hid hW1
  have HB := Lib.hid bA
  have HP := Lib.hid hp
  have HH := Lib.hid h
  have hpl := h.lt _ h.inp
  have HSS := Lib.hid (fun (W' : World) (bl : Below W1.heap.size W1 W') => (bl.block w.heap.size (by omega)).trans kA)
  have HQS := Lib.hid (fun (W' : World) (bl : Below W1.heap.size W1 W') => (bl.block q (lt_of_block hp1.1)).trans hp1.1)
  have CR := Lib.hid (fun (W' : World) (bl : Below W1.heap.size W1 W') => refRightRec_any f.rc A n c W' ((hv.below bA).below bl))
  have HRR := Lib.hid (fun (W' : World) (bl : Below W1.heap.size W1 W') => And.intro ((hv.below bA).below bl) (And.intro (show Sl W' A2 n2 1 (f.route.map (Value.int .i64)) from (hr.below bA).below bl) (show SlI W' Av nv v from Sl.below (Sl.below hsv bA) bl)))
  have HSL := Lib.hid (fun (W' : World) (bl : Below W1.heap.size W1 W') => And.intro (show Sl W' A0 l.length 5 (rows.flatMap fV1) from Sl.below (Sl.of_own hp1.2.1) bl) (fun y hy => ((hp1.2.2.2.2 y hy).vs.slv.below bl)))
  have HRW := Lib.hid (And.intro hp.2.2.2.1 (fun y hy => (hp.2.2.2.2 y hy).right))
  have HNV := Lib.hid hnv
  have HR0 := Lib.hid hr
  have HN2 := Lib.hid hn2
  have HC2 := Lib.hid hc2
  have HNL := Lib.hid (show f.rc.vers.length = n from hv.1.len)
  have hlt := h.lt
  have HL := Lib.hid (fun (W' : World) (bl : Below W1.heap.size W1 W') => show RITo w fp q room l (.int .i64 0) (.returned (.int .i64 0)) W' from ⟨rfl, fp, (h.below bA).below bl, (Fr.of_below bA).trans (Fr.of_below bl (fp := fun _ => False)) (fun _ h => h.elim), Grow.refl _ _⟩)
  have z2 := row_cell (j := 2) kA rfl
  have z3 := row_cell (j := 3) kA rfl
  rw [← hW1] at z2 z3
  clear h hp hp1 bA kA hv hr hsv hW1 hnv hn2 hc2 hlt
  go_enter Try.func24, Try.ntmps24
  go_wp2_with fail
  rw [HW1.out]
  refine (CR.out _ (Below.refl _ _)).mono ?_
  rintro e w2 ⟨rfl, b2⟩
  have H2 := Lib.hid b2
  clear b2 CR z2 z3
  have kf := HSS.out w2 H2.out
  have p0 := HQS.out w2 H2.out
  have z0 := row_cell (j := 0) kf rfl
  have z1 := row_cell (j := 1) kf rfl
  have z2 := row_cell (j := 2) kf rfl
  have z3 := row_cell (j := 3) kf rfl
  have z4 := row_cell (j := 4) kf rfl
  have u0 := row_cell (j := 0) p0 rfl
  have u1 := row_cell (j := 1) p0 rfl
  clear kf p0
  cases hrr : rightR f.rc
  · have hbad : rightF f = false := by unfold rightF; rw [hrr]; rfl
    have HE := Lib.hid (takeA_bad (room := room) (l := l) (v := v) hbad)
    clear hbad hrr
    go_wp2
    go_ret
    rw [HE.out.1, HE.out.2]
    exact ⟨rfl, (HL.out _ H2.out).2⟩
  have HRT := Lib.hid hrr
  clear hrr
  by_cases hn1 : n = 1
  rotate_left
  · have hbad : rightF f = false := by unfold rightF; rw [HNL.out, decide_eq_false hn1, Bool.and_false]
    have q1 : ((n : Int) != 1) = true := by simp; omega
    have HE := Lib.hid (takeA_bad (room := room) (l := l) (v := v) hbad)
    clear hbad
    go_wp2
    go_ret
    rw [HE.out.1, HE.out.2]
    exact ⟨rfl, (HL.out _ H2.out).2⟩
  subst hn1
  have HRF := Lib.hid (show rightF f = true from by unfold rightF; rw [HRT.out, HNL.out]; rfl)
  have hvs : SlV W1 A 1 f.rc.vers := (HRR.out _ (Below.refl _ _)).1.1
  have CD := Lib.hid (fun (W' : World) (bl : Below W1.heap.size W1 W') => rdot_any W' f A 1 c (.slice A2 n2 c2) (hvs.below bl) HNL.out)
  have hs0 : -9223372036854775808 ≤ f.ver.s ∧ f.ver.s ≤ 9223372036854775807 := by
    obtain ⟨_, _, _, _, _, _, _, _, _, _, hvr⟩ := ver_at hvs HNL.out
    exact bounds_i64 hvr.wf.1
  have CC := Lib.hid (fun (W' : World) (bl : Below W1.heap.size W1 W') => refCovers_any Av nv cv v f.ver.s f.ver.n W' (HRR.out _ bl).2.2 HNV.out hs0.1 hs0.2)
  clear hs0 hvs
  go_wp2_with fail
  refine (CD.out _ H2.out).mono ?_
  rintro e w3 ⟨rfl, b3⟩
  have H3 := Lib.hid (H2.out.trans (b3.mono H2.out.size))
  clear b3 z0 z1 z2 z3 z4 u0 u1
  go_wp2_with fail
  refine (CC.out _ H3.out).mono ?_
  rintro e w4 ⟨rfl, b4⟩
  have H4 := Lib.hid (H3.out.trans (b4.mono H3.out.size))
  clear b4 CC
  cases hcv : coversB v f.ver.s f.ver.n
  rotate_left
  · have HE := Lib.hid (takeA_cov (room := room) (l := l) (v := v) HRF.out hcv)
    clear hcv
    go_wp2
    go_ret
    rw [HE.out.1, HE.out.2]
    exact ⟨rfl, (HL.out _ H4.out).2⟩
  have HCV := Lib.hid (show covB v f = false from hcv)
  clear hcv
  go_wp2_with fail
  go_loopw [7] (fun t7 wr => ∃ k : Nat, t7 = .int .i64 (k : Int) ∧ k ≤ l.length ∧ Hid ((l.take k).any (sameDot f) = false) ∧ Hid (Below W1.heap.size W1 wr)) (fun t7 _ => l.length - (intOf t7).toNat)
  case atStart => exact ⟨0, rfl, Nat.zero_le _, Lib.hid rfl, H4⟩
  case round =>
    obtain ⟨k, rfl, hk, HA, H5⟩ := hrel
    have kf := HSS.out wr H5.out
    have p0 := HQS.out wr H5.out
    have z0 := row_cell (j := 0) kf rfl
    have z1 := row_cell (j := 1) kf rfl
    have z2 := row_cell (j := 2) kf rfl
    have z3 := row_cell (j := 3) kf rfl
    have z4 := row_cell (j := 4) kf rfl
    have u0 := row_cell (j := 0) p0 rfl
    have u1 := row_cell (j := 1) p0 rfl
    clear kf p0
    by_cases hlt : k < l.length
    · obtain ⟨x, hx⟩ : ∃ x, l[k]? = some x := ⟨_, List.getElem?_eq_getElem hlt⟩
      obtain ⟨⟨x', ⟨Ax, nx, cx⟩, Ax2, nx2, cx2⟩, hy, rfl⟩ := row_get HRW.out.1 hx
      simp only at hx
      obtain ⟨gx, ox, rfl, hc⟩ := far_at (HSL.out _ H5.out).1 hy
      have X0 := Ext.cell (show wr.cell? ⟨gx, ox + k * 5, none⟩ = some (.int .i64 x'.src) from hc 0 _ (by omega) rfl)
      have X1 := Ext.cell (hc 1 _ (by omega) rfl)
      have X2 := Ext.cell (hc 2 _ (by omega) rfl)
      have X3 := Ext.cell (hc 3 _ (by omega) rfl)
      have X4 := Ext.cell (hc 4 _ (by omega) rfl)
      have Z0 := Ext.cell z0
      have Z1 := Ext.cell z1
      have Z2 := Ext.cell z2
      have Z3 := Ext.cell z3
      have Z4 := Ext.cell z4
      have U1 := Ext.cell u1
      have hm := List.mem_of_getElem? hy
      have C1 := Lib.hid (fun z : Ext wr => rdot_any z.w x' Ax nx cx (.slice Ax2 nx2 cx2) (((HSL.out _ H5.out).2 _ hm).below z.below) (rightF_rec (HRW.out.2 _ hm)).2)
      have C2 := Lib.hid (fun z : Ext wr => CD.out _ (H5.out.trans (z.below.mono H5.out.size)))
      have HX := Lib.hid hx
      have k0' : (0 : Int) ≤ (k : Int) := by omega
      have k1' : (k : Int) < (l.length : Int) := by omega
      have q1 := eq_dot x'.ver.s x'.ver.n f.ver.s f.ver.n
      obtain ⟨db, hdb⟩ : ∃ db, sameDot f x' = db := ⟨_, rfl⟩
      rw [show decide (x'.ver.s = f.ver.s ∧ x'.ver.n = f.ver.n) = db from hdb] at q1
      have HD := Lib.hid hdb
      clear hx hy hc hm hdb z0 z1 z2 z3 z4
      go_wp2_with fail
      refine wp_region_ext (by kernel_rfl) (by kernel_rfl) ?_
      repeat (go_big_quiet_step (first
        | (go_at_call 43; with_reducible exact Calls.ext_of (C1.out _))
        | (go_at_call 43; with_reducible exact Calls.ext_of (C2.out _)) | fail))
      refine wpQuiet_nil ?_
      intro w6 hw6
      have H6 := Lib.hid (H5.out.trans ((ext_end hw6).mono H5.out.size))
      clear hw6 X0 X1 X2 X3 X4 Z0 Z1 Z2 Z3 Z4 U1 u0 u1 C1 C2 q1
      cases db
      · have HA2 := Lib.hid (any_step HX.out HD.out HA.out)
        go_wp2
        go_roundw
        case rel => exact ⟨k + 1, by go_num, by omega, HA2, H6⟩
        case measure => simp [intOf]; omega
      · have HE := Lib.hid (takeA_twice (room := room) (v := v) HRF.out HCV.out (any_hit HX.out HD.out))
        go_wp2
        go_ret
        rw [HE.out.1, HE.out.2]
        exact ⟨rfl, (HL.out _ H6.out).2⟩
    · obtain rfl : k = l.length := by omega
      have HTW := Lib.hid (show l.any (sameDot f) = false from by have := HA.out; rwa [List.take_length] at this)
      by_cases hroom : room ≤ (l.length : Int)
      rotate_left
      · have HE := Lib.hid (takeA_kept (room := room) (v := v) HRF.out HCV.out HTW.out (fun hh => hroom hh.1))
        have q2 : decide (room ≤ (l.length : Int)) = false := decide_eq_false hroom
        have X0 := Ext.cell u0
        have X1 := Ext.cell u1
        clear z0 z1 z2 z3 z4
        go_wp2_with fail
        refine wp_region_ext (by kernel_rfl) (by kernel_rfl) ?_
        repeat (go_big_quiet_step (fail))
        refine wpQuiet_nil ?_
        intro w6 hw6
        have H6 := Lib.hid (H5.out.trans ((ext_end hw6).mono H5.out.size))
        clear hw6 X0 X1 u0 u1 q2
        have kf := HSS.out w6 H6.out
        have p0 := HQS.out w6 H6.out
        have z0 := row_cell (j := 0) kf rfl
        have z1 := row_cell (j := 1) kf rfl
        have z2 := row_cell (j := 2) kf rfl
        have z3 := row_cell (j := 3) kf rfl
        have z4 := row_cell (j := 4) kf rfl
        have u0 := row_cell (j := 0) p0 rfl
        have u1 := row_cell (j := 1) p0 rfl
        clear kf p0
        have CO := Lib.hid (refOwn_any w6 f.rc A 1 c (HRR.out _ H6.out).1)
        have HBW := Lib.hid (HB.out.trans (H6.out.mono HB.out.size))
        go_wp2_with fail
        refine CO.out.mono ?_
        rintro e w7 ⟨A7, n7, c7, vr, rfl, hvr, ov, hl7, hc7, b7⟩
        have H7 := H6.out.trans (b7.mono H6.out.size)
        have k7 := HSS.out w7 H7
        have x0 := row_cell (j := 0) k7 rfl
        have x1 := row_cell (j := 1) k7 rfl
        have x2 := row_cell (j := 2) k7 rfl
        have x3 := row_cell (j := 3) k7 rfl
        have x4 := row_cell (j := 4) k7 rfl
        have f2 := frozen_of_row w7 w.heap.size 2 _ _ k7
        have f3 := frozen_of_row w7 w.heap.size 3 _ _ k7
        have hsb := HBW.out.size
        have hs7 := b7.size
        have hs6 := H6.out.size
        have F8 : Fr (fun i => i = w.heap.size) w7 ((w7.setCell ⟨w.heap.size, 2, none⟩ (.string f.rc.key)).setCell ⟨w.heap.size, 3, none⟩ (.slice A7 n7 c7)) :=
          (Fr.set w7 ⟨w.heap.size, 2, none⟩ _).trans (Fr.set _ ⟨w.heap.size, 3, none⟩ _) (fun i hi => .inl hi)
        have k8 := heap_setCell_same _ w.heap.size 3 _ _ (.slice A7 n7 c7) (heap_setCell_same w7 w.heap.size 2 _ _ (.string f.rc.key) k7)
        have hs8 : Sl ((w7.setCell ⟨w.heap.size, 2, none⟩ (.string f.rc.key)).setCell ⟨w.heap.size, 3, none⟩ (.slice A7 n7 c7)) A2 n2 1 (f.route.map (Value.int .i64)) :=
          Sl.keepB (Sl.below HR0.out (HBW.out.trans (b7.mono hsb))) fun b off hn e => F8.block b (by have := Sl.blk_lt HR0.out hn e; omega) (by have := Sl.blk_lt HR0.out hn e; omega)
        have o8 : (((w7.setCell ⟨w.heap.size, 2, none⟩ (.string f.rc.key)).setCell ⟨w.heap.size, 3, none⟩ (.slice A7 n7 c7)).alloc (.cells #[] 3)).ownsRow w7.heap.size 3 1 (.slice (some ⟨w7.heap.size, 0, none⟩) 0 0) 0 [] := ownEmpty' _ _ w7.heap.size _ 1 (by simp) (Nat.le_refl _)
        have y4 := row_cell (j := 4) ((Below.heap_alloc _ (.cells #[] 3) _ (lt_of_block k8)).trans k8) rfl
        have HS8 := Lib.hid hs8
        have HO8 := Lib.hid o8
        have H8 := Lib.hid (And.intro k8 (And.intro F8 (And.intro ov (And.intro hvr (And.intro b7 H7)))))
        have hn2' := HN2.out
        clear k7 F8 k8 hs8 o8 ov hvr b7 H7 CO z0 z1 z2 z3 z4 u0 u1
        go_wp2_with (first | (at_builtin; refine wpList_append_sl _ rfl (.tmp 63) (.tmp 65) 33 rfl (w7.heap.size) 3 j0 (.int .i64 0) 1 8 Try.underlying33 ki kz0 kz1 kz2 rfl (by decide) (.slice (some ⟨w7.heap.size, 0, none⟩) 0 0) (0) ([]) rfl (HO8.out) (A2) (n2) (c2) (f.route.map (Value.int .i64)) rfl (Sl.alloc HS8.out _) (intV_one _) (by unfold maxLen; omega) (by omega) (by simp) ?_) | fail)
        intro v9 w9 own9 g9 _
        obtain ⟨A9, c9, rfl, hc9, -⟩ := own_slice own9
        obtain ⟨k8, F8, ov, hvr, b7, H7⟩ := H8.out
        have hsz8 := F8.size
        have b9 : Below w7.heap.size ((w7.setCell ⟨w.heap.size, 2, none⟩ (.string f.rc.key)).setCell ⟨w.heap.size, 3, none⟩ (.slice A7 n7 c7)) w9 := ((Below.refl _ _).alloc (by simp) _).grown g9 (by simp) (fun q hq => by simp [Value.ownBlock] at hq; omega)
        have k9 := (b9.block w.heap.size (by omega)).trans k8
        have q4 := row_cell (j := 4) k9 rfl
        have f4 := frozen_of_row w9 w.heap.size 4 _ _ k9
        have hsz9 := b9.size
        have k10 := heap_setCell_same w9 w.heap.size 4 _ _ (.slice A9 n2 c9) k9
        have F10 : Fr (fun i => i = w.heap.size) w9 (w9.setCell ⟨w.heap.size, 4, none⟩ (.slice A9 n2 c9)) := Fr.set w9 ⟨w.heap.size, 4, none⟩ _
        have b9x : Below ((w7.setCell ⟨w.heap.size, 2, none⟩ (.string f.rc.key)).setCell ⟨w.heap.size, 3, none⟩ (.slice A7 n7 c7)).heap.size ((w7.setCell ⟨w.heap.size, 2, none⟩ (.string f.rc.key)).setCell ⟨w.heap.size, 3, none⟩ (.slice A7 n7 c7)) w9 := by simpa using b9
        have ov10 := ((ov.keepI F8 (fun i hi e => by omega)).below b9x).keepI F10 (fun i hi e => by omega)
        have own10 := own_keepI own9 F10 (fun i hi e => by omega)
        have HB10 : Below w.heap.size w (w9.setCell ⟨w.heap.size, 4, none⟩ (.slice A9 n2 c9)) := (((HBW.out.trans (b7.mono hsb)).trans (F8.below (B := w.heap.size) (fun i hi => by omega) (by omega))).trans (b9.mono (by omega))).trans (F10.below (B := w.heap.size) (fun i hi => by omega) (by omega))
        have R2 := own_keep HP.out.2.1 (fp := fun b => b < w.heap.size) (fun g hg => (HP.out.2.1.lt g hg).2) (fun b o hb ho => (HB10.block b hb).trans ho)
        have kq := (HB10.block q hpl).trans HP.out.1
        have hn7 : n7 = f.rc.vers.length := hl7.symm
        have HO1 := Lib.hid (And.intro HB10 (And.intro hvr (And.intro (ov10.lower (B' := w.heap.size) (by omega)) (And.intro hc7 (And.intro (own_lower own10 (b' := w.heap.size) (by omega)) hc9)))))
        have HK10 := Lib.hid (And.intro k10 kq)
        have hs10 : w.heap.size ≤ w9.heap.size := by omega
        clear k8 F8 ov hvr b7 H7 hsz8 b9 b9x k9 k10 F10 ov10 own10 HB10 own9 g9 kq hn7 H8 HS8 HO8 hc9 hc7 hl7 f2 f3 x0 x1 x2 x3 x4 y4
        go_wp2_with fail
        obtain ⟨w10, hw10⟩ : ∃ w10, w9.setCell ⟨w.heap.size, 4, none⟩ (.slice A9 n2 c9) = w10 := ⟨_, rfl⟩
        rw [hw10] at R2 HO1 HK10 ⊢
        have hs10 : w.heap.size ≤ w10.heap.size := by rw [← hw10]; simpa using hs10
        clear hw10
        have v0 := row_cell (j := 0) HK10.out.1 rfl
        have v1 := row_cell (j := 1) HK10.out.1 rfl
        have v2 := row_cell (j := 2) HK10.out.1 rfl
        have v3 := row_cell (j := 3) HK10.out.1 rfl
        have v4 := row_cell (j := 4) HK10.out.1 rfl
        have d1' := row_cell (j := 1) HK10.out.2 rfl
        have hpl7 : q < w10.heap.size := by omega
        go_region_law (first
          | (refine step_append_sl rfl (.tmp 72) (.tmp 74) 64 rfl 0 61 i0 (.agg #[.int .i64 0, .int .i64 0, .string ⟨#[]⟩, .slice none 0 0, .slice none 0 0]) 5 80 Try.underlying64 hi hz0 hz1 hz2 rfl (by decide) (.slice A0 l.length k0) l.length (rows.flatMap fV1) rfl (R2.alloc _) (some ⟨w10.heap.size, 0, none⟩) 1 1 (fV1 (f, (A7, n7, c7), (A9, n2, c9))) rfl (sl_lit _ _ _ _ 1 5 _ rfl rfl rfl) (fV1_one _) (by unfold maxLen; omega) (by omega) (Nat.zero_le _) ?_; intro v3' w11 own3 g3 hv3; obtain ⟨A3, k3, rfl, -, -⟩ := own_slice own3; obtain ⟨h3, d0, d1⟩ := HH.out.push (f := f) HP.out HO1.out.1 HO1.out.2.1 HO1.out.2.2.1 HO1.out.2.2.2.1 HO1.out.2.2.2.2.1 HO1.out.2.2.2.2.2 hn2' HRF.out own3 (grown_drew g3) (by simpa using hv3); have d2 := d1 1; have H3 := Lib.hid h3; have hsz3 := g3.size; clear own3 g3 hv3 h3 d1))
        all_goals
          go_wp2
          go_ret
          rw [HE.out.1, HE.out.2]
          exact H3.out
      have q2 : decide (room ≤ (l.length : Int)) = true := decide_eq_true hroom
      have X0 := Ext.cell u0
      have X1 := Ext.cell u1
      have Z0 := Ext.cell z0
      have Z1 := Ext.cell z1
      have Z2 := Ext.cell z2
      have Z3 := Ext.cell z3
      have Z4 := Ext.cell z4
      obtain ⟨bm, hbm⟩ : ∃ bm, mayB v f = bm := ⟨_, rfl⟩
      have cm := fun z : Ext wr => rmay_any z.w v f Av nv cv A 1 c (.slice A2 n2 c2) (HRR.out _ (H5.out.trans (z.below.mono H5.out.size))).2.2 HNV.out (HRR.out _ (H5.out.trans (z.below.mono H5.out.size))).1.1 HNL.out
      rw [hbm] at cm
      have CM := Lib.hid cm
      have HBM := Lib.hid hbm
      clear cm hbm z0 z1 z2 z3 z4
      go_wp2_with fail
      refine wp_region_ext (by kernel_rfl) (by kernel_rfl) ?_
      repeat (go_big_quiet_step (first | (go_at_call 44; with_reducible exact Calls.ext_of (CM.out _)) | fail))
      refine wpQuiet_nil ?_
      intro w6 hw6
      have H6 := Lib.hid (H5.out.trans ((ext_end hw6).mono H5.out.size))
      clear hw6 X0 X1 Z0 Z1 Z2 Z3 Z4 q2 CM u0 u1
      cases bm
      · have HE := Lib.hid (takeA_full (room := room) (v := v) HRF.out HCV.out HTW.out hroom HBM.out)
        go_wp2
        go_ret
        rw [HE.out.1, HE.out.2]
        exact ⟨rfl, (HL.out _ H6.out).2⟩
      · have HE := Lib.hid (takeA_kept (room := room) (v := v) HRF.out HCV.out HTW.out (fun hh => by rw [HBM.out] at hh; cases hh.2))
        have kf := HSS.out w6 H6.out
        have p0 := HQS.out w6 H6.out
        have z0 := row_cell (j := 0) kf rfl
        have z1 := row_cell (j := 1) kf rfl
        have z2 := row_cell (j := 2) kf rfl
        have z3 := row_cell (j := 3) kf rfl
        have z4 := row_cell (j := 4) kf rfl
        have u0 := row_cell (j := 0) p0 rfl
        have u1 := row_cell (j := 1) p0 rfl
        clear kf p0
        have CO := Lib.hid (refOwn_any w6 f.rc A 1 c (HRR.out _ H6.out).1)
        have HBW := Lib.hid (HB.out.trans (H6.out.mono HB.out.size))
        go_wp2_with fail
        refine CO.out.mono ?_
        rintro e w7 ⟨A7, n7, c7, vr, rfl, hvr, ov, hl7, hc7, b7⟩
        have H7 := H6.out.trans (b7.mono H6.out.size)
        have k7 := HSS.out w7 H7
        have x0 := row_cell (j := 0) k7 rfl
        have x1 := row_cell (j := 1) k7 rfl
        have x2 := row_cell (j := 2) k7 rfl
        have x3 := row_cell (j := 3) k7 rfl
        have x4 := row_cell (j := 4) k7 rfl
        have f2 := frozen_of_row w7 w.heap.size 2 _ _ k7
        have f3 := frozen_of_row w7 w.heap.size 3 _ _ k7
        have hsb := HBW.out.size
        have hs7 := b7.size
        have hs6 := H6.out.size
        have F8 : Fr (fun i => i = w.heap.size) w7 ((w7.setCell ⟨w.heap.size, 2, none⟩ (.string f.rc.key)).setCell ⟨w.heap.size, 3, none⟩ (.slice A7 n7 c7)) :=
          (Fr.set w7 ⟨w.heap.size, 2, none⟩ _).trans (Fr.set _ ⟨w.heap.size, 3, none⟩ _) (fun i hi => .inl hi)
        have k8 := heap_setCell_same _ w.heap.size 3 _ _ (.slice A7 n7 c7) (heap_setCell_same w7 w.heap.size 2 _ _ (.string f.rc.key) k7)
        have hs8 : Sl ((w7.setCell ⟨w.heap.size, 2, none⟩ (.string f.rc.key)).setCell ⟨w.heap.size, 3, none⟩ (.slice A7 n7 c7)) A2 n2 1 (f.route.map (Value.int .i64)) :=
          Sl.keepB (Sl.below HR0.out (HBW.out.trans (b7.mono hsb))) fun b off hn e => F8.block b (by have := Sl.blk_lt HR0.out hn e; omega) (by have := Sl.blk_lt HR0.out hn e; omega)
        have o8 : (((w7.setCell ⟨w.heap.size, 2, none⟩ (.string f.rc.key)).setCell ⟨w.heap.size, 3, none⟩ (.slice A7 n7 c7)).alloc (.cells #[] 3)).ownsRow w7.heap.size 3 1 (.slice (some ⟨w7.heap.size, 0, none⟩) 0 0) 0 [] := ownEmpty' _ _ w7.heap.size _ 1 (by simp) (Nat.le_refl _)
        have y4 := row_cell (j := 4) ((Below.heap_alloc _ (.cells #[] 3) _ (lt_of_block k8)).trans k8) rfl
        have HS8 := Lib.hid hs8
        have HO8 := Lib.hid o8
        have H8 := Lib.hid (And.intro k8 (And.intro F8 (And.intro ov (And.intro hvr (And.intro b7 H7)))))
        have hn2' := HN2.out
        clear k7 F8 k8 hs8 o8 ov hvr b7 H7 CO z0 z1 z2 z3 z4 u0 u1
        go_wp2_with (first | (at_builtin; refine wpList_append_sl _ rfl (.tmp 63) (.tmp 65) 33 rfl (w7.heap.size) 3 j0 (.int .i64 0) 1 8 Try.underlying33 ki kz0 kz1 kz2 rfl (by decide) (.slice (some ⟨w7.heap.size, 0, none⟩) 0 0) (0) ([]) rfl (HO8.out) (A2) (n2) (c2) (f.route.map (Value.int .i64)) rfl (Sl.alloc HS8.out _) (intV_one _) (by unfold maxLen; omega) (by omega) (by simp) ?_) | fail)
        intro v9 w9 own9 g9 _
        obtain ⟨A9, c9, rfl, hc9, -⟩ := own_slice own9
        obtain ⟨k8, F8, ov, hvr, b7, H7⟩ := H8.out
        have hsz8 := F8.size
        have b9 : Below w7.heap.size ((w7.setCell ⟨w.heap.size, 2, none⟩ (.string f.rc.key)).setCell ⟨w.heap.size, 3, none⟩ (.slice A7 n7 c7)) w9 := ((Below.refl _ _).alloc (by simp) _).grown g9 (by simp) (fun q hq => by simp [Value.ownBlock] at hq; omega)
        have k9 := (b9.block w.heap.size (by omega)).trans k8
        have q4 := row_cell (j := 4) k9 rfl
        have f4 := frozen_of_row w9 w.heap.size 4 _ _ k9
        have hsz9 := b9.size
        have k10 := heap_setCell_same w9 w.heap.size 4 _ _ (.slice A9 n2 c9) k9
        have F10 : Fr (fun i => i = w.heap.size) w9 (w9.setCell ⟨w.heap.size, 4, none⟩ (.slice A9 n2 c9)) := Fr.set w9 ⟨w.heap.size, 4, none⟩ _
        have b9x : Below ((w7.setCell ⟨w.heap.size, 2, none⟩ (.string f.rc.key)).setCell ⟨w.heap.size, 3, none⟩ (.slice A7 n7 c7)).heap.size ((w7.setCell ⟨w.heap.size, 2, none⟩ (.string f.rc.key)).setCell ⟨w.heap.size, 3, none⟩ (.slice A7 n7 c7)) w9 := by simpa using b9
        have ov10 := ((ov.keepI F8 (fun i hi e => by omega)).below b9x).keepI F10 (fun i hi e => by omega)
        have own10 := own_keepI own9 F10 (fun i hi e => by omega)
        have HB10 : Below w.heap.size w (w9.setCell ⟨w.heap.size, 4, none⟩ (.slice A9 n2 c9)) := (((HBW.out.trans (b7.mono hsb)).trans (F8.below (B := w.heap.size) (fun i hi => by omega) (by omega))).trans (b9.mono (by omega))).trans (F10.below (B := w.heap.size) (fun i hi => by omega) (by omega))
        have R2 := own_keep HP.out.2.1 (fp := fun b => b < w.heap.size) (fun g hg => (HP.out.2.1.lt g hg).2) (fun b o hb ho => (HB10.block b hb).trans ho)
        have kq := (HB10.block q hpl).trans HP.out.1
        have hn7 : n7 = f.rc.vers.length := hl7.symm
        have HO1 := Lib.hid (And.intro HB10 (And.intro hvr (And.intro (ov10.lower (B' := w.heap.size) (by omega)) (And.intro hc7 (And.intro (own_lower own10 (b' := w.heap.size) (by omega)) hc9)))))
        have HK10 := Lib.hid (And.intro k10 kq)
        have hs10 : w.heap.size ≤ w9.heap.size := by omega
        clear k8 F8 ov hvr b7 H7 hsz8 b9 b9x k9 k10 F10 ov10 own10 HB10 own9 g9 kq hn7 H8 HS8 HO8 hc9 hc7 hl7 f2 f3 x0 x1 x2 x3 x4 y4
        go_wp2_with fail
        obtain ⟨w10, hw10⟩ : ∃ w10, w9.setCell ⟨w.heap.size, 4, none⟩ (.slice A9 n2 c9) = w10 := ⟨_, rfl⟩
        rw [hw10] at R2 HO1 HK10 ⊢
        have hs10 : w.heap.size ≤ w10.heap.size := by rw [← hw10]; simpa using hs10
        clear hw10
        have v0 := row_cell (j := 0) HK10.out.1 rfl
        have v1 := row_cell (j := 1) HK10.out.1 rfl
        have v2 := row_cell (j := 2) HK10.out.1 rfl
        have v3 := row_cell (j := 3) HK10.out.1 rfl
        have v4 := row_cell (j := 4) HK10.out.1 rfl
        have d1' := row_cell (j := 1) HK10.out.2 rfl
        have hpl7 : q < w10.heap.size := by omega
        go_region_law (first
          | (refine step_append_sl rfl (.tmp 72) (.tmp 74) 64 rfl 0 61 i0 (.agg #[.int .i64 0, .int .i64 0, .string ⟨#[]⟩, .slice none 0 0, .slice none 0 0]) 5 80 Try.underlying64 hi hz0 hz1 hz2 rfl (by decide) (.slice A0 l.length k0) l.length (rows.flatMap fV1) rfl (R2.alloc _) (some ⟨w10.heap.size, 0, none⟩) 1 1 (fV1 (f, (A7, n7, c7), (A9, n2, c9))) rfl (sl_lit _ _ _ _ 1 5 _ rfl rfl rfl) (fV1_one _) (by unfold maxLen; omega) (by omega) (Nat.zero_le _) ?_; intro v3' w11 own3 g3 hv3; obtain ⟨A3, k3, rfl, -, -⟩ := own_slice own3; obtain ⟨h3, d0, d1⟩ := HH.out.push (f := f) HP.out HO1.out.1 HO1.out.2.1 HO1.out.2.2.1 HO1.out.2.2.2.1 HO1.out.2.2.2.2.1 HO1.out.2.2.2.2.2 hn2' HRF.out own3 (grown_drew g3) (by simpa using hv3); have d2 := d1 1; have H3 := Lib.hid h3; have hsz3 := g3.size; clear own3 g3 hv3 h3 d1))
        all_goals
          go_wp2
          go_ret
          rw [HE.out.1, HE.out.2]
          exact H3.out
end
end Go.Proofs.Ytilagblpamhmkaa
