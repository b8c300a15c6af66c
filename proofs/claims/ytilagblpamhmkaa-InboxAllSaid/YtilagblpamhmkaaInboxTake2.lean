/-
  firth/inbox: Take.
-/
import Derived.Test.YtilagblpamhmkaaInboxTake
import Derived.Test.YtilagblpamhmkaaMB
namespace Go.Proofs.Ytilagblpamhmkaa
open Go.RowKit
set_option linter.unusedVariables false

theorem Try.infoFar5 : (Try.prog.info? 35).map (fun i => (i.zero, i.size, i.bytes)) = some (some (.agg #[.int .i64 0, .int .i64 0, .string ⟨#[]⟩, .slice none 0 0, .slice none 0 0]), 5, 80) := Try.infoFarD
section
variable {w w' : World} {fp fp' : Nat → Prop} {p : Nat} {room : Int} {l : List Fa}
set_option maxHeartbeats 20000000 in
set_option maxRecDepth 100000 in
theorem take_any (f : Fa) (A : Option Addr) (n c : Nat) (A2 : Option Addr) (n2 c2 : Nat) (Av : Option Addr) (nv cv : Nat) (v : List Int) (h : InG w fp p room l) (hv : RRow w f.rc A n c) (hr : Sl w A2 n2 1 (f.route.map (Value.int .i64))) (hc2 : n2 ≤ c2) (hn2 : n2 * 8 ≤ 140737488351232) (hsv : SlI w Av nv v) (hnv : nv ≤ 140737488351232) (hl : (l.length + 1) * 80 ≤ 140737488355328) :
    Calls Try.prog 12 #[.pointer (some ⟨p, 0, none⟩), .agg #[.int .i64 f.src, .int .i64 f.seq, .string f.rc.key, .slice A n c, .slice A2 n2 c2], .slice Av nv cv] w (ITo w fp p room (takeI room l f v) (.int .i64 (takeA room l f v))) := by
  obtain ⟨i0, hi, hz0, hz1, hz2⟩ := info_parts Try.infoFar5
  obtain ⟨lv, rows, hp⟩ := h.ex
  obtain ⟨A0, k0, rfl, hk0, _⟩ := own_slice hp.2.1
  have bA : Below w.heap.size w (w.alloc (.cells #[.int .i64 f.src, .int .i64 f.seq, .string f.rc.key, .slice A n c, .slice A2 n2 c2] 35)) := (Below.refl _ _).alloc (Nat.le_refl _) _
  have kA := heap_alloc_new w (.cells #[.int .i64 f.src, .int .i64 f.seq, .string f.rc.key, .slice A n c, .slice A2 n2 c2] 35)
  have hxl : w.heap.size < (w.alloc (.cells #[.int .i64 f.src, .int .i64 f.seq, .string f.rc.key, .slice A n c, .slice A2 n2 c2] 35)).heap.size := by simp
  obtain ⟨W1, hW1⟩ : ∃ W1, w.alloc (.cells #[.int .i64 f.src, .int .i64 f.seq, .string f.rc.key, .slice A n c, .slice A2 n2 c2] 35) = W1 := ⟨_, rfl⟩
  rw [hW1] at bA kA hxl
  have hp1 := hp.kept h.inp (Kept.below (fp := fp) bA)
  have HW1 := Lib.hid hW1
  have HB := Lib.hid bA
  have HP := Lib.hid hp
  have HH := Lib.hid h
  have hpl := h.lt _ h.inp
  have HPL := Lib.hid hpl
  have HSS := Lib.hid (fun (W' : World) (bl : Below W1.heap.size W1 W') => And.intro ((bl.cell (p := ⟨p, 0, none⟩) (lt_of_block hp1.1)).trans (row_cell (j := 0) hp1.1 rfl)) (And.intro ((bl.cell (p := ⟨p, 1, none⟩) (lt_of_block hp1.1)).trans (row_cell (j := 1) hp1.1 rfl)) (And.intro ((bl.cell (p := ⟨w.heap.size, 0, none⟩) hxl).trans (row_cell (j := 0) kA rfl)) (And.intro ((bl.cell (p := ⟨w.heap.size, 1, none⟩) hxl).trans (row_cell (j := 1) kA rfl)) (And.intro ((bl.cell (p := ⟨w.heap.size, 2, none⟩) hxl).trans (row_cell (j := 2) kA rfl)) (And.intro ((bl.cell (p := ⟨w.heap.size, 3, none⟩) hxl).trans (row_cell (j := 3) kA rfl)) (And.intro ((bl.cell (p := ⟨w.heap.size, 4, none⟩) hxl).trans (row_cell (j := 4) kA rfl)) bl)))))))
  have HSB := Lib.hid (fun (W' : World) (bl : Below w.heap.size w W') => (bl.cell (p := ⟨p, 1, none⟩) (lt_of_block hp.1)).trans (row_cell (j := 1) hp.1 rfl))
  have CR := Lib.hid (fun (W' : World) (bl : Below W1.heap.size W1 W') => rightRec_any f.rc A n c W' ((hv.below bA).below bl))
  have HRR := Lib.hid (fun (W' : World) (bl : Below W1.heap.size W1 W') => And.intro ((hv.below bA).below bl) (And.intro (show Sl W' A2 n2 1 (f.route.map (Value.int .i64)) from (hr.below bA).below bl) (show SlI W' Av nv v from Sl.below (Sl.below hsv bA) bl)))
  have HSL := Lib.hid (fun (W' : World) (bl : Below W1.heap.size W1 W') => And.intro (show Sl W' A0 l.length 5 (rows.flatMap fV1) from Sl.below (Sl.of_own hp1.2.1) bl) (fun y hy => ((hp1.2.2.2.2 y hy).vs.slv.below bl)))
  have HF5 := Lib.hid (fun (W' : World) (bl : Below W1.heap.size W1 W') => show Far5 W' w.heap.size f A n c (.slice A2 n2 c2) from (bl.block _ hxl).trans kA)
  have HRW := Lib.hid (And.intro hp.2.2.2.1 (fun y hy => (hp.2.2.2.2 y hy).right))
  have HNV := Lib.hid hnv
  have HN2 := Lib.hid hn2
  have HN3 := Lib.hid (show f.route.length * 8 ≤ 140737488351232 from by have := hr.1; simp at this; omega)
  have HC2 := Lib.hid hc2
  have HNL := Lib.hid (show f.rc.vers.length = n from hv.1.len)
  have hlt := h.lt
  have HL := Lib.hid (fun (W' : World) (bl : Below W1.heap.size W1 W') => show ITo w fp p room l (.int .i64 0) (.returned (.int .i64 0)) W' from ⟨rfl, fp, (h.below bA).below bl, (Fr.of_below bA).trans (Fr.of_below bl (fp := fun _ => False)) (fun _ h => h.elim), Grow.refl _ _⟩)
  clear h hp hp1 bA kA hv hr hsv hW1 hnv hn2 hc2 hlt
  go_enter Try.func12, Try.ntmps12
  go_wp2_with fail
  rw [HW1.out]
  refine (CR.out _ (Below.refl _ _)).mono ?_
  rintro e w2 ⟨rfl, b2⟩
  have H2 := Lib.hid b2
  clear b2 CR
  obtain ⟨p0, p1, z0, z1, z2, z3, z4, -⟩ := HSS.out w2 H2.out
  cases hrr : rightR f.rc
  · have hbad : rightF f = false := by unfold rightF; rw [hrr]; rfl
    obtain ⟨e1, e2⟩ := takeA_bad (room := room) (l := l) (v := v) hbad
    have HE := Lib.hid (And.intro e1 e2)
    clear e1 e2 hbad hrr
    go_wp2
    go_ret
    rw [HE.out.1, HE.out.2]
    exact HL.out _ H2.out
  have HRT := Lib.hid hrr
  clear hrr
  by_cases hn1 : n = 1
  rotate_left
  · have hbad : rightF f = false := by unfold rightF; rw [HNL.out, decide_eq_false hn1, Bool.and_false]
    obtain ⟨e1, e2⟩ := takeA_bad (room := room) (l := l) (v := v) hbad
    have q1 : ((n : Int) != 1) = true := by simp; omega
    have HE := Lib.hid (And.intro e1 e2)
    clear e1 e2 hbad
    go_wp2
    go_ret
    rw [HE.out.1, HE.out.2]
    exact HL.out _ H2.out
  subst hn1
  have HRF := Lib.hid (show rightF f = true from by unfold rightF; rw [HRT.out, HNL.out]; rfl)
  have hvs : SlV W1 A 1 f.rc.vers := (HRR.out _ (Below.refl _ _)).1.1
  have CD := Lib.hid (fun (W' : World) (bl : Below W1.heap.size W1 W') => dotF_any W' f A 1 c (.slice A2 n2 c2) (hvs.below bl) HNL.out)
  have hs0 : -9223372036854775808 ≤ f.ver.s := by
    obtain ⟨_, _, _, _, _, _, _, _, _, _, hvr⟩ := ver_at hvs HNL.out
    exact (bounds_i64 hvr.wf.1).1
  have CC := Lib.hid (fun (W' : World) (bl : Below W1.heap.size W1 W') => covers_any Av nv cv v f.ver.s f.ver.n W' (HRR.out _ bl).2.2 HNV.out hs0)
  clear hs0 hvs
  go_wp2_with fail
  refine (CD.out _ H2.out).mono ?_
  rintro e w3 ⟨rfl, b3⟩
  have H3 := Lib.hid (H2.out.trans (b3.mono H2.out.size))
  clear b3 p0 p1 z0 z1 z2 z3 z4 CD
  go_wp2_with fail
  refine (CC.out _ H3.out).mono ?_
  rintro e w4 ⟨rfl, b4⟩
  have H4 := Lib.hid (H3.out.trans (b4.mono H3.out.size))
  clear b4 CC
  obtain ⟨p0, p1, z0, z1, z2, z3, z4, -⟩ := HSS.out w4 H4.out
  cases hcv : coversB v f.ver.s f.ver.n
  rotate_left
  · obtain ⟨e1, e2⟩ := takeA_cov (room := room) (l := l) (v := v) HRF.out hcv
    have HE := Lib.hid (And.intro e1 e2)
    clear e1 e2 hcv
    go_wp2
    go_ret
    rw [HE.out.1, HE.out.2]
    exact ⟨rfl, (HL.out _ H4.out).2⟩
  have HCV := Lib.hid (show covB v f = false from hcv)
  clear hcv
  have CS := Lib.hid (contains_same w4 A0 l.length k0 rows ⟨w.heap.size, 0, none⟩ (sameDot f) (HSL.out _ H4.out).1 (by omega) (Lib.hid (fun y hy W bl => sameDot_any W f y.1 w.heap.size A 1 c (.slice A2 n2 c2) y.2.1.1 y.2.1.2.1 y.2.1.2.2 _ (HF5.out _ (H4.out.trans (bl.mono H4.out.size))) ((HRR.out _ (H4.out.trans (bl.mono H4.out.size))).1.1) HNL.out (((HSL.out _ H4.out).2 y hy).below bl) (rightF_rec (HRW.out.2 y hy)).2)))
  go_wp2_with fail
  refine CS.out.mono ?_
  rintro e w5 ⟨rfl, b5⟩
  rw [HRW.out.1]
  have H5 := Lib.hid (H4.out.trans (b5.mono H4.out.size))
  clear b5 CS p0 p1 z0 z1 z2 z3 z4
  obtain ⟨p0, p1, z0, z1, z2, z3, z4, -⟩ := HSS.out w5 H5.out
  cases htw : l.any (sameDot f)
  rotate_left
  · obtain ⟨e1, e2⟩ := takeA_twice (room := room) (v := v) HRF.out HCV.out htw
    have HE := Lib.hid (And.intro e1 e2)
    clear e1 e2 htw
    go_wp2
    go_ret
    rw [HE.out.1, HE.out.2]
    exact ⟨rfl, (HL.out _ H5.out).2⟩
  have HTW := Lib.hid htw
  clear htw
  by_cases hroom : room ≤ (l.length : Int)
  rotate_left
  · have HE := Lib.hid (takeA_kept (room := room) (v := v) HRF.out HCV.out HTW.out (fun hh => hroom hh.1))
    have q1 : decide ((l.length : Int) ≥ room) = false := decide_eq_false hroom
    have q2 : decide (room ≤ (l.length : Int)) = false := q1
    have X0 := Ext.cell p0
    have X1 := Ext.cell p1
    go_wp2_with fail
    refine wp_region_ext (by kernel_rfl) (by kernel_rfl) ?_
    repeat (go_big_quiet_step (fail))
    refine wpQuiet_nil ?_
    intro w6 hw6
    have H6 := Lib.hid (H5.out.trans ((ext_end hw6).mono H5.out.size))
    clear hw6 X0 X1 p0 p1 z0 z1 z2 z3 z4 q1 q2
    obtain ⟨p0, p1, z0, z1, z2, z3, z4, -⟩ := HSS.out w6 H6.out
    have HO := Lib.hid (fun (W : World) (b : Below w6.heap.size w6 W) => ownF_any W f A 1 c A2 n2 c2 ((HRR.out _ (H6.out.trans (b.mono H6.out.size))).1) ((HRR.out _ (H6.out.trans (b.mono H6.out.size))).2.1) HC2.out HN2.out HRT.out)
    have HBW := Lib.hid (HB.out.trans (H6.out.mono HB.out.size))
    clear HRR HSL HF5 HL
    go_wp2_with fail
    go_region_law (first
      | (go_simp; go_at_call 37; refine (HO.out _ ((Below.refl _ _).drew)).mono ?_; rintro e wz ⟨A1, c1, A2', n2', c2', rfl, ⟨vr, hvr, ov⟩, hc1, hrl, hc2', o2, bz⟩; have bzw : Below w.heap.size w wz := HBW.out.trans ((((Below.refl _ w6).drew).trans bz).mono HBW.out.size); have d0' := HSB.out wz bzw; have R2 := own_keep HP.out.2.1 (fp := fun b => b < w.heap.size) (fun g hg => (HP.out.2.1.lt g hg).2) (fun b o hb ho => (bzw.block b hb).trans ho); have HO1 := Lib.hid (And.intro bzw (And.intro hvr (And.intro (ov.lower (show w.heap.size ≤ w6.drew.heap.size from HBW.out.size)) (And.intro hc1 (And.intro (own_lower o2 (show w.heap.size ≤ w6.drew.heap.size from HBW.out.size)) (And.intro hc2' hrl)))))); have hsz1 := bzw.size; have hpl7 : p < wz.heap.size := Nat.lt_of_lt_of_le HPL.out bzw.size; clear o2 ov hvr hc1 hc2' bz bzw hrl)
      | (refine step_append_sl rfl (.tmp 53) (.tmp 56) 22 rfl 0 35 i0 (.agg #[.int .i64 0, .int .i64 0, .string ⟨#[]⟩, .slice none 0 0, .slice none 0 0]) 5 80 Try.underlying22 hi hz0 hz1 hz2 rfl (by decide) (.slice A0 l.length k0) l.length (rows.flatMap fV1) rfl (R2.alloc _) (some ⟨wz.heap.size, 0, none⟩) 1 1 (fV1 (f, (A1, f.rc.vers.length, c1), (A2', n2', c2'))) rfl (sl_lit _ _ _ _ 1 5 _ rfl rfl rfl) (fV1_one _) (by unfold maxLen; omega) (by omega) (Nat.zero_le _) ?_; intro v3 w8 own3 g3 hv3; obtain ⟨A3, k3, rfl, -, -⟩ := own_slice own3; obtain ⟨h3, d0, d1⟩ := HH.out.push (f := f) HP.out HO1.out.1 HO1.out.2.1 HO1.out.2.2.1 HO1.out.2.2.2.1 HO1.out.2.2.2.2.1 HO1.out.2.2.2.2.2.1 (by rw [← HO1.out.2.2.2.2.2.2]; exact HN3.out) HRF.out own3 g3 (by simpa using hv3); have d2 := d1 1; have H3 := Lib.hid h3; have hsz3 := g3.size; clear own3 g3 hv3 h3 d1))
    all_goals
      go_wp2
      go_ret
      rw [HE.out.1, HE.out.2]
      exact H3.out
  have q1 : decide ((l.length : Int) ≥ room) = true := decide_eq_true hroom
  have q2 : decide (room ≤ (l.length : Int)) = true := q1
  clear p0 p1 z0 z1 z2 z3 z4
  go_wp2_with fail
  refine wp_region_noPanic ?_
  refine wp_region_held_drew (S := (fun w' => w'.cell? ⟨p, 0, none⟩ = some (.int .i64 room) ∧ w'.cell? ⟨p, 1, none⟩ = some (.slice A0 l.length k0) ∧ w'.cell? ⟨w.heap.size, 0, none⟩ = some (.int .i64 f.src) ∧ w'.cell? ⟨w.heap.size, 1, none⟩ = some (.int .i64 f.seq) ∧ w'.cell? ⟨w.heap.size, 2, none⟩ = some (.string f.rc.key) ∧ w'.cell? ⟨w.heap.size, 3, none⟩ = some (.slice A 1 c) ∧ w'.cell? ⟨w.heap.size, 4, none⟩ = some (.slice A2 n2 c2) ∧ Below W1.heap.size W1 w')) (by kernel_rfl) ?_ (fun hHeld => ?_)
  · exact HSS.out _ H5.out.drew
  first
    | (refine wpAnyH_take (i := 0) (oi := _) (v := undef) (dropAt rfl) (by kernel_rfl) (by kernel_rfl) (by kernel_rfl) (fun _ _ _ h => h) (Or.inr ⟨by rfl, rfl⟩) (by assumption) ?_)
    | (refine wpAnyH_take (i := 0) (oi := _) (v := ?_) (dropAt rfl) (by kernel_rfl) (by kernel_rfl) (by kernel_rfl) (fun _ _ _ h => h) (Or.inl ⟨by rfl, ?_⟩) (by assumption) ?_; rotate_left; (focus (intro w2 hSw; (try dsimp only at hSw); go_simp; try with_reducible rfl)))
    | fail
  try simp only [Act.put, List.setIfInBounds_toArray, List.set_cons_zero, List.set_cons_succ]
  first
    | (refine wpAnyH_take (i := 1) (oi := _) (v := undef) (dropAt rfl) (by kernel_rfl) (by kernel_rfl) (by kernel_rfl) (fun _ _ _ h => h) (Or.inr ⟨by rfl, rfl⟩) (by assumption) ?_)
    | (refine wpAnyH_take (i := 1) (oi := _) (v := ?_) (dropAt rfl) (by kernel_rfl) (by kernel_rfl) (by kernel_rfl) (fun _ _ _ h => h) (Or.inl ⟨by rfl, ?_⟩) (by assumption) ?_; rotate_left; (focus (intro w2 hSw; (try dsimp only at hSw); go_simp; try with_reducible rfl)))
    | fail
  try simp only [Act.put, List.setIfInBounds_toArray, List.set_cons_zero, List.set_cons_succ]
  first
    | (refine wpAnyH_take (i := 2) (oi := _) (v := undef) (dropAt rfl) (by kernel_rfl) (by kernel_rfl) (by kernel_rfl) (fun _ _ _ h => h) (Or.inr ⟨by rfl, rfl⟩) (by assumption) ?_)
    | (refine wpAnyH_take (i := 2) (oi := _) (v := ?_) (dropAt rfl) (by kernel_rfl) (by kernel_rfl) (by kernel_rfl) (fun _ _ _ h => h) (Or.inl ⟨by rfl, ?_⟩) (by assumption) ?_; rotate_left; (focus (intro w2 hSw; (try dsimp only at hSw); go_simp; try with_reducible rfl)))
    | fail
  try simp only [Act.put, List.setIfInBounds_toArray, List.set_cons_zero, List.set_cons_succ]
  first
    | (refine wpAnyH_take (i := 3) (oi := _) (v := undef) (dropAt rfl) (by kernel_rfl) (by kernel_rfl) (by kernel_rfl) (fun _ _ _ h => h) (Or.inr ⟨by rfl, rfl⟩) (by assumption) ?_)
    | (refine wpAnyH_take (i := 3) (oi := _) (v := ?_) (dropAt rfl) (by kernel_rfl) (by kernel_rfl) (by kernel_rfl) (fun _ _ _ h => h) (Or.inl ⟨by rfl, ?_⟩) (by assumption) ?_; rotate_left; (focus (intro w2 hSw; (try dsimp only at hSw); go_simp; try with_reducible rfl)))
    | fail
  try simp only [Act.put, List.setIfInBounds_toArray, List.set_cons_zero, List.set_cons_succ]
  first
    | (refine wpAnyH_take (i := 4) (oi := _) (v := undef) (dropAt rfl) (by kernel_rfl) (by kernel_rfl) (by kernel_rfl) (fun _ _ _ h => h) (Or.inr ⟨by rfl, rfl⟩) (by assumption) ?_)
    | (refine wpAnyH_take (i := 4) (oi := _) (v := ?_) (dropAt rfl) (by kernel_rfl) (by kernel_rfl) (by kernel_rfl) (fun _ _ _ h => h) (Or.inl ⟨by rfl, ?_⟩) (by assumption) ?_; rotate_left; (focus (intro w2 hSw; (try dsimp only at hSw); go_simp; try with_reducible rfl)))
    | fail
  try simp only [Act.put, List.setIfInBounds_toArray, List.set_cons_zero, List.set_cons_succ]
  first
    | (refine wpAnyH_take (i := 5) (oi := _) (v := undef) (dropAt rfl) (by kernel_rfl) (by kernel_rfl) (by kernel_rfl) (fun _ _ _ h => h) (Or.inr ⟨by rfl, rfl⟩) (by assumption) ?_)
    | (refine wpAnyH_take (i := 5) (oi := _) (v := ?_) (dropAt rfl) (by kernel_rfl) (by kernel_rfl) (by kernel_rfl) (fun _ _ _ h => h) (Or.inl ⟨by rfl, ?_⟩) (by assumption) ?_; rotate_left; (focus (intro w2 hSw; (try dsimp only at hSw); go_simp; try with_reducible rfl)))
    | fail
  try simp only [Act.put, List.setIfInBounds_toArray, List.set_cons_zero, List.set_cons_succ]
  first
    | (refine wpAnyH_take (i := 6) (oi := _) (v := undef) (dropAt rfl) (by kernel_rfl) (by kernel_rfl) (by kernel_rfl) (fun _ _ _ h => h) (Or.inr ⟨by rfl, rfl⟩) (by assumption) ?_)
    | (refine wpAnyH_take (i := 6) (oi := _) (v := ?_) (dropAt rfl) (by kernel_rfl) (by kernel_rfl) (by kernel_rfl) (fun _ _ _ h => h) (Or.inl ⟨by rfl, ?_⟩) (by assumption) ?_; rotate_left; (focus (intro w2 hSw; (try dsimp only at hSw); go_simp; try with_reducible rfl)))
    | fail
  try simp only [Act.put, List.setIfInBounds_toArray, List.set_cons_zero, List.set_cons_succ]
  first
    | (refine wpAnyH_take (i := 7) (oi := _) (v := undef) (dropAt rfl) (by kernel_rfl) (by kernel_rfl) (by kernel_rfl) (fun _ _ _ h => h) (Or.inr ⟨by rfl, rfl⟩) (by assumption) ?_)
    | (refine wpAnyH_take (i := 7) (oi := _) (v := ?_) (dropAt rfl) (by kernel_rfl) (by kernel_rfl) (by kernel_rfl) (fun _ _ _ h => h) (Or.inl ⟨by rfl, ?_⟩) (by assumption) ?_; rotate_left; (focus (intro w2 hSw; (try dsimp only at hSw); go_simp; try with_reducible rfl)))
    | fail
  try simp only [Act.put, List.setIfInBounds_toArray, List.set_cons_zero, List.set_cons_succ]
  first
    | (refine wpAnyH_take (i := 8) (oi := _) (v := undef) (dropAt rfl) (by kernel_rfl) (by kernel_rfl) (by kernel_rfl) (fun _ _ _ h => h) (Or.inr ⟨by rfl, rfl⟩) (by assumption) ?_)
    | (refine wpAnyH_take (i := 8) (oi := _) (v := ?_) (dropAt rfl) (by kernel_rfl) (by kernel_rfl) (by kernel_rfl) (fun _ _ _ h => h) (Or.inl ⟨by rfl, ?_⟩) (by assumption) ?_; rotate_left; (focus (intro w2 hSw; (try dsimp only at hSw); go_simp; try with_reducible rfl)))
    | fail
  try simp only [Act.put, List.setIfInBounds_toArray, List.set_cons_zero, List.set_cons_succ]
  first
    | (refine wpAnyH_take (i := 9) (oi := _) (v := undef) (dropAt rfl) (by kernel_rfl) (by kernel_rfl) (by kernel_rfl) (fun _ _ _ h => h) (Or.inr ⟨by rfl, rfl⟩) (by assumption) ?_)
    | (refine wpAnyH_take (i := 9) (oi := _) (v := ?_) (dropAt rfl) (by kernel_rfl) (by kernel_rfl) (by kernel_rfl) (fun _ _ _ h => h) (Or.inl ⟨by rfl, ?_⟩) (by assumption) ?_; rotate_left; (focus (intro w2 hSw; (try dsimp only at hSw); go_simp; try with_reducible rfl)))
    | fail
  try simp only [Act.put, List.setIfInBounds_toArray, List.set_cons_zero, List.set_cons_succ]
  first
    | (refine wpAnyH_take (i := 10) (oi := _) (v := undef) (dropAt rfl) (by kernel_rfl) (by kernel_rfl) (by kernel_rfl) (fun _ _ _ h => h) (Or.inr ⟨by rfl, rfl⟩) (by assumption) ?_)
    | (refine wpAnyH_take (i := 10) (oi := _) (v := ?_) (dropAt rfl) (by kernel_rfl) (by kernel_rfl) (by kernel_rfl) (fun _ _ _ h => h) (Or.inl ⟨by rfl, ?_⟩) (by assumption) ?_; rotate_left; (focus (intro w2 hSw; (try dsimp only at hSw); go_simp; try with_reducible rfl)))
    | fail
  try simp only [Act.put, List.setIfInBounds_toArray, List.set_cons_zero, List.set_cons_succ]
  first
    | (refine wpAnyH_take (i := 11) (oi := _) (v := undef) (dropAt rfl) (by kernel_rfl) (by kernel_rfl) (by kernel_rfl) (fun _ _ _ h => h) (Or.inr ⟨by rfl, rfl⟩) (by assumption) ?_)
    | (refine wpAnyH_take (i := 11) (oi := _) (v := ?_) (dropAt rfl) (by kernel_rfl) (by kernel_rfl) (by kernel_rfl) (fun _ _ _ h => h) (Or.inl ⟨by rfl, ?_⟩) (by assumption) ?_; rotate_left; (focus (intro w2 hSw; (try dsimp only at hSw); go_simp; try with_reducible rfl)))
    | fail
  try simp only [Act.put, List.setIfInBounds_toArray, List.set_cons_zero, List.set_cons_succ]
  first
    | (refine wpAnyH_take (i := 13) (oi := _) (v := undef) (dropAt rfl) (by kernel_rfl) (by kernel_rfl) (by kernel_rfl) (fun _ _ _ h => h) (Or.inr ⟨by rfl, rfl⟩) (by assumption) ?_)
    | (refine wpAnyH_take (i := 13) (oi := _) (v := ?_) (dropAt rfl) (by kernel_rfl) (by kernel_rfl) (by kernel_rfl) (fun _ _ _ h => h) (Or.inl ⟨by rfl, ?_⟩) (by assumption) ?_; rotate_left; (focus (intro w2 hSw; (try dsimp only at hSw); go_simp; try with_reducible rfl)))
    | fail
  try simp only [Act.put, List.setIfInBounds_toArray, List.set_cons_zero, List.set_cons_succ]
  obtain ⟨gm, hgm⟩ : ∃ gm, w5.drew.heap.size = gm := ⟨_, rfl⟩
  have CM := Lib.hid (may_any w5.drew Av nv cv)
  rw [hgm] at CM
  have HG := Lib.hid hgm
  clear hgm
  refine wpAnyH_ready (rs := [12]) (by kernel_rfl) (by simp) ?_
  refine AllReadyH.cons (o := _) (dropAt rfl) (fun K hK => ?_) AllReadyH.nil
  go_simp
  (go_at_call 36; refine CM.out.mono ?_; rintro e w6 ⟨rfl, e6⟩; have H6 := Lib.hid (show Below W1.heap.size W1 w6 from by rw [e6]; exact H5.out.drew.alloc H5.out.size _); have k6 := Lib.hid (show w6.heap[gm]? = some (.cells #[.slice Av nv cv] 23 (0, 0)) from by rw [e6, ← HG.out]; exact heap_alloc_new w5.drew _); clear e6)
  refine hK.out _ _ ?_ (fun hHeld => ?_)
  · exact HSS.out _ H6.out
  clear hK K
  try simp only [Act.put, List.setIfInBounds_toArray, List.set_cons_zero, List.set_cons_succ]
  have CV := Lib.hid (may1_any w6 v f gm Av nv cv A 1 c (.slice A2 n2 c2) k6.out (HRR.out _ H6.out).2.2 HNV.out (HRR.out _ H6.out).1.1 HNL.out)
  refine wpAnyH_ready (rs := [14]) (by kernel_rfl) (by simp) ?_
  refine AllReadyH.cons (o := _) (dropAt rfl) (fun K hK => ?_) AllReadyH.nil
  go_simp
  (refine CV.out.mono ?_; rintro e w7 ⟨rfl, b7⟩; have H7 := Lib.hid (H6.out.trans (b7.mono H6.out.size)); clear b7)
  refine hK.out _ _ ?_ (fun hHeld => ?_)
  · exact HSS.out _ H7.out
  clear hK K
  try simp only [Act.put, List.setIfInBounds_toArray, List.set_cons_zero, List.set_cons_succ]
  clear CV CM k6 H6 HG
  cases hm : mayB v f
  · have HE := Lib.hid (takeA_full (room := room) (v := v) HRF.out HCV.out HTW.out hroom hm)
    first
      | (refine wpAnyH_take (i := 15) (oi := _) (v := undef) (dropAt rfl) (by kernel_rfl) (by kernel_rfl) (by kernel_rfl) (fun _ _ _ h => h) (Or.inr ⟨by rfl, rfl⟩) (by assumption) ?_)
      | (refine wpAnyH_take (i := 15) (oi := _) (v := ?_) (dropAt rfl) (by kernel_rfl) (by kernel_rfl) (by kernel_rfl) (fun _ _ _ h => h) (Or.inl ⟨by rfl, ?_⟩) (by assumption) ?_; rotate_left; (focus (intro w2 hSw; (try dsimp only at hSw); go_simp; try with_reducible rfl)))
      | fail
    try simp only [Act.put, List.setIfInBounds_toArray, List.set_cons_zero, List.set_cons_succ]
    first
      | (refine wpAnyH_take (i := 16) (oi := _) (v := undef) (dropAt rfl) (by kernel_rfl) (by kernel_rfl) (by kernel_rfl) (fun _ _ _ h => h) (Or.inr ⟨by rfl, rfl⟩) (by assumption) ?_)
      | (refine wpAnyH_take (i := 16) (oi := _) (v := ?_) (dropAt rfl) (by kernel_rfl) (by kernel_rfl) (by kernel_rfl) (fun _ _ _ h => h) (Or.inl ⟨by rfl, ?_⟩) (by assumption) ?_; rotate_left; (focus (intro w2 hSw; (try dsimp only at hSw); go_simp; try with_reducible rfl)))
      | fail
    try simp only [Act.put, List.setIfInBounds_toArray, List.set_cons_zero, List.set_cons_succ]
    first
      | (refine wpAnyH_take (i := 17) (oi := _) (v := undef) (dropAt rfl) (by kernel_rfl) (by kernel_rfl) (by kernel_rfl) (fun _ _ _ h => h) (Or.inr ⟨by rfl, rfl⟩) (by assumption) ?_)
      | (refine wpAnyH_take (i := 17) (oi := _) (v := ?_) (dropAt rfl) (by kernel_rfl) (by kernel_rfl) (by kernel_rfl) (fun _ _ _ h => h) (Or.inl ⟨by rfl, ?_⟩) (by assumption) ?_; rotate_left; (focus (intro w2 hSw; (try dsimp only at hSw); go_simp; try with_reducible rfl)))
      | fail
    try simp only [Act.put, List.setIfInBounds_toArray, List.set_cons_zero, List.set_cons_succ]
    refine wpAnyH_done (by kernel_rfl) ?_ _
    refine NoPanic.normal ?_
    clear hHeld q1 q2
    go_wp2
    go_ret
    rw [HE.out.1, HE.out.2]
    exact ⟨rfl, (HL.out _ H7.out).2⟩
  · have HE := Lib.hid (takeA_kept (room := room) (v := v) HRF.out HCV.out HTW.out (fun hh => by rw [hm] at hh; cases hh.2))
    first
      | (refine wpAnyH_take (i := 15) (oi := _) (v := undef) (dropAt rfl) (by kernel_rfl) (by kernel_rfl) (by kernel_rfl) (fun _ _ _ h => h) (Or.inr ⟨by rfl, rfl⟩) (by assumption) ?_)
      | (refine wpAnyH_take (i := 15) (oi := _) (v := ?_) (dropAt rfl) (by kernel_rfl) (by kernel_rfl) (by kernel_rfl) (fun _ _ _ h => h) (Or.inl ⟨by rfl, ?_⟩) (by assumption) ?_; rotate_left; (focus (intro w2 hSw; (try dsimp only at hSw); go_simp; try with_reducible rfl)))
      | fail
    try simp only [Act.put, List.setIfInBounds_toArray, List.set_cons_zero, List.set_cons_succ]
    first
      | (refine wpAnyH_take (i := 16) (oi := _) (v := undef) (dropAt rfl) (by kernel_rfl) (by kernel_rfl) (by kernel_rfl) (fun _ _ _ h => h) (Or.inr ⟨by rfl, rfl⟩) (by assumption) ?_)
      | (refine wpAnyH_take (i := 16) (oi := _) (v := ?_) (dropAt rfl) (by kernel_rfl) (by kernel_rfl) (by kernel_rfl) (fun _ _ _ h => h) (Or.inl ⟨by rfl, ?_⟩) (by assumption) ?_; rotate_left; (focus (intro w2 hSw; (try dsimp only at hSw); go_simp; try with_reducible rfl)))
      | fail
    try simp only [Act.put, List.setIfInBounds_toArray, List.set_cons_zero, List.set_cons_succ]
    first
      | (refine wpAnyH_take (i := 17) (oi := _) (v := undef) (dropAt rfl) (by kernel_rfl) (by kernel_rfl) (by kernel_rfl) (fun _ _ _ h => h) (Or.inr ⟨by rfl, rfl⟩) (by assumption) ?_)
      | (refine wpAnyH_take (i := 17) (oi := _) (v := ?_) (dropAt rfl) (by kernel_rfl) (by kernel_rfl) (by kernel_rfl) (fun _ _ _ h => h) (Or.inl ⟨by rfl, ?_⟩) (by assumption) ?_; rotate_left; (focus (intro w2 hSw; (try dsimp only at hSw); go_simp; try with_reducible rfl)))
      | fail
    try simp only [Act.put, List.setIfInBounds_toArray, List.set_cons_zero, List.set_cons_succ]
    refine wpAnyH_done (by kernel_rfl) ?_ _
    refine NoPanic.normal ?_
    clear hHeld q1 q2 hm
    have H6 := H7
    clear H7
    obtain ⟨w6, hw6⟩ : ∃ w6, w7 = w6 := ⟨_, rfl⟩
    subst hw6
    obtain ⟨p0, p1, z0, z1, z2, z3, z4, -⟩ := HSS.out w7 H6.out
    have HO := Lib.hid (fun (W : World) (b : Below w7.heap.size w7 W) => ownF_any W f A 1 c A2 n2 c2 ((HRR.out _ (H6.out.trans (b.mono H6.out.size))).1) ((HRR.out _ (H6.out.trans (b.mono H6.out.size))).2.1) HC2.out HN2.out HRT.out)
    have HBW := Lib.hid (HB.out.trans (H6.out.mono HB.out.size))
    clear HRR HSL HF5 HL
    go_wp2_with fail
    go_region_law (first
      | (go_simp; go_at_call 37; refine (HO.out _ ((Below.refl _ _).drew)).mono ?_; rintro e wz ⟨A1, c1, A2', n2', c2', rfl, ⟨vr, hvr, ov⟩, hc1, hrl, hc2', o2, bz⟩; have bzw : Below w.heap.size w wz := HBW.out.trans ((((Below.refl _ w7).drew).trans bz).mono HBW.out.size); have d0' := HSB.out wz bzw; have R2 := own_keep HP.out.2.1 (fp := fun b => b < w.heap.size) (fun g hg => (HP.out.2.1.lt g hg).2) (fun b o hb ho => (bzw.block b hb).trans ho); have HO1 := Lib.hid (And.intro bzw (And.intro hvr (And.intro (ov.lower (show w.heap.size ≤ w7.drew.heap.size from HBW.out.size)) (And.intro hc1 (And.intro (own_lower o2 (show w.heap.size ≤ w7.drew.heap.size from HBW.out.size)) (And.intro hc2' hrl)))))); have hsz1 := bzw.size; have hpl7 : p < wz.heap.size := Nat.lt_of_lt_of_le HPL.out bzw.size; clear o2 ov hvr hc1 hc2' bz bzw hrl)
      | (refine step_append_sl rfl (.tmp 53) (.tmp 56) 22 rfl 0 35 i0 (.agg #[.int .i64 0, .int .i64 0, .string ⟨#[]⟩, .slice none 0 0, .slice none 0 0]) 5 80 Try.underlying22 hi hz0 hz1 hz2 rfl (by decide) (.slice A0 l.length k0) l.length (rows.flatMap fV1) rfl (R2.alloc _) (some ⟨wz.heap.size, 0, none⟩) 1 1 (fV1 (f, (A1, f.rc.vers.length, c1), (A2', n2', c2'))) rfl (sl_lit _ _ _ _ 1 5 _ rfl rfl rfl) (fV1_one _) (by unfold maxLen; omega) (by omega) (Nat.zero_le _) ?_; intro v3 w8 own3 g3 hv3; obtain ⟨A3, k3, rfl, -, -⟩ := own_slice own3; obtain ⟨h3, d0, d1⟩ := HH.out.push (f := f) HP.out HO1.out.1 HO1.out.2.1 HO1.out.2.2.1 HO1.out.2.2.2.1 HO1.out.2.2.2.2.1 HO1.out.2.2.2.2.2.1 (by rw [← HO1.out.2.2.2.2.2.2]; exact HN3.out) HRF.out own3 g3 (by simpa using hv3); have d2 := d1 1; have H3 := Lib.hid h3; have hsz3 := g3.size; clear own3 g3 hv3 h3 d1))
    all_goals
      go_wp2
      go_ret
      rw [HE.out.1, HE.out.2]
      exact H3.out
end
end Go.Proofs.Ytilagblpamhmkaa
