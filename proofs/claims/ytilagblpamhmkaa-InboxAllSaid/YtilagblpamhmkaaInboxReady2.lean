/-
  firth/inbox: Ready.
-/
import Derived.Test.YtilagblpamhmkaaInboxReady
import Derived.Test.YtilagblpamhmkaaInboxOwn
namespace Go.Proofs.Ytilagblpamhmkaa
open Go.RowKit
set_option linter.unusedVariables false

section
variable {w w' : World} {fp fp' : Nat → Prop} {p : Nat} {room : Int} {l : List Fa}
theorem idxV_none {l : List Fa} {v : List Int} (h : readyI l v = none) : idxV l (mayB v) = -1 := by unfold idxV; unfold readyI at h; rw [h]
theorem idxV_some {l : List Fa} {v : List Int} {k : Nat} (h : readyI l v = some k) : idxV l (mayB v) = (k : Int) := by unfold idxV; unfold readyI at h; rw [h]
set_option maxHeartbeats 20000000 in
set_option maxRecDepth 100000 in
theorem ready_any (Av : Option Addr) (nv cv : Nat) (v : List Int) (h : InG w fp p room l) (hsv : SlI w Av nv v) (hnv : nv ≤ 140737488351232) (hl : l.length * 80 ≤ 140737488355328) :
    Calls Try.prog 13 #[.pointer (some ⟨p, 0, none⟩), .slice Av nv cv] w (RdTo w fp p room l v) := by
  obtain ⟨lv, rows, hp⟩ := h.ex
  obtain ⟨A0, k0, rfl, hk0, _⟩ := own_slice hp.2.1
  have bA : Below w.heap.size w (w.alloc (.cells #[.int .i64 0, .int .i64 0, .string ⟨#[]⟩, .slice none 0 0, .slice none 0 0] 35)) := (Below.refl _ _).alloc (Nat.le_refl _) _
  have kA := heap_alloc_new w (.cells #[.int .i64 0, .int .i64 0, .string ⟨#[]⟩, .slice none 0 0, .slice none 0 0] 35)
  have hxl : w.heap.size < (w.alloc (.cells #[.int .i64 0, .int .i64 0, .string ⟨#[]⟩, .slice none 0 0, .slice none 0 0] 35)).heap.size := by simp
  obtain ⟨W1, hW1⟩ : ∃ W1, w.alloc (.cells #[.int .i64 0, .int .i64 0, .string ⟨#[]⟩, .slice none 0 0, .slice none 0 0] 35) = W1 := ⟨_, rfl⟩
  rw [hW1] at bA kA hxl
  have h1 := h.below bA
  have hp1 := hp.kept h.inp (Kept.below (fp := fp) bA)
  have HW1 := Lib.hid hW1
  have HB := Lib.hid bA
  have HXL := Lib.hid hxl
  have hlt := h.lt
  have HLT := Lib.hid hlt
  have HI := Lib.hid (And.intro h1 (And.intro hp1 kA))
  have HSS := Lib.hid (fun (W' : World) (bl : Below W1.heap.size W1 W') => And.intro ((bl.cell (p := ⟨p, 1, none⟩) (lt_of_block hp1.1)).trans (row_cell (j := 1) hp1.1 rfl)) bl)
  have HSL := Lib.hid (fun (W' : World) (bl : Below W1.heap.size W1 W') => And.intro (show Sl W' A0 l.length 5 (rows.flatMap fV1) from Sl.below (Sl.of_own hp1.2.1) bl) (And.intro (show SlI W' Av nv v from Sl.below (Sl.below hsv bA) bl) (fun y hy => ((hp1.2.2.2.2 y hy).vs.slv.below bl))))
  have HRW := Lib.hid (And.intro hp.2.2.2.1 (fun y hy => (hp.2.2.2.2 y hy).right))
  have HNV := Lib.hid hnv
  clear h hp hp1 h1 bA kA hsv hW1 hnv hlt hxl
  go_enter Try.func13, Try.ntmps13
  go_wp2_with fail
  rw [HW1.out]
  refine wp_region_noPanic ?_
  refine wp_region_held_drew (S := (fun w' => w'.cell? ⟨p, 1, none⟩ = some (.slice A0 l.length k0) ∧ Below W1.heap.size W1 w')) (by kernel_rfl) ?_ (fun hHeld => ?_)
  · exact HSS.out _ (Below.refl _ _).drew
  first
    | (refine wpAnyH_take (i := 0) (oi := _) (v := undef) (dropAt rfl) (by kernel_rfl) (by kernel_rfl) (by kernel_rfl) (fun _ _ _ h => h) (Or.inr ⟨by rfl, rfl⟩) (by assumption) ?_)
    | (refine wpAnyH_take (i := 0) (oi := _) (v := ?_) (dropAt rfl) (by kernel_rfl) (by kernel_rfl) (by kernel_rfl) (fun _ _ _ h => h) (Or.inl ⟨by rfl, ?_⟩) (by assumption) ?_; rotate_left; (focus (intro w2 hSw; (try dsimp only at hSw); go_simp; try with_reducible rfl)))
    | fail
  try simp only [Act.put, List.setIfInBounds_toArray, List.set_cons_zero, List.set_cons_succ]
  first
    | (refine wpAnyH_take (i := 1) (oi := _) (v := undef) (dropAt rfl) (by kernel_rfl) (by kernel_rfl) (by kernel_rfl) (fun _ _ _ h => h) (Or.inr ⟨by rfl, rfl⟩) (by assumption) ?_)
    | (refine wpAnyH_take (i := 1) (oi := _) (v := ?_) (dropAt rfl) (by kernel_rfl) (by kernel_rfl) (by kernel_rfl) (fun _ _ _ h => h) (Or.inl ⟨by rfl, ?_⟩) (by assumption) ?_; rotate_left; (focus (intro w2 hSw; (try dsimp only at hSw); go_simp; try with_reducible rfl)))
    | fail
  try simp only [Act.put, List.setIfInBounds_toArray, List.set_cons_zero, List.set_cons_succ]
  first
    | (refine wpAnyH_take (i := 2) (oi := _) (v := undef) (dropAt rfl) (by kernel_rfl) (by kernel_rfl) (by kernel_rfl) (fun _ _ _ h => h) (Or.inr ⟨by rfl, rfl⟩) (by assumption) ?_)
    | (refine wpAnyH_take (i := 2) (oi := _) (v := ?_) (dropAt rfl) (by kernel_rfl) (by kernel_rfl) (by kernel_rfl) (fun _ _ _ h => h) (Or.inl ⟨by rfl, ?_⟩) (by assumption) ?_; rotate_left; (focus (intro w2 hSw; (try dsimp only at hSw); go_simp; try with_reducible rfl)))
    | fail
  try simp only [Act.put, List.setIfInBounds_toArray, List.set_cons_zero, List.set_cons_succ]
  first
    | (refine wpAnyH_take (i := 3) (oi := _) (v := undef) (dropAt rfl) (by kernel_rfl) (by kernel_rfl) (by kernel_rfl) (fun _ _ _ h => h) (Or.inr ⟨by rfl, rfl⟩) (by assumption) ?_)
    | (refine wpAnyH_take (i := 3) (oi := _) (v := ?_) (dropAt rfl) (by kernel_rfl) (by kernel_rfl) (by kernel_rfl) (fun _ _ _ h => h) (Or.inl ⟨by rfl, ?_⟩) (by assumption) ?_; rotate_left; (focus (intro w2 hSw; (try dsimp only at hSw); go_simp; try with_reducible rfl)))
    | fail
  try simp only [Act.put, List.setIfInBounds_toArray, List.set_cons_zero, List.set_cons_succ]
  first
    | (refine wpAnyH_take (i := 4) (oi := _) (v := undef) (dropAt rfl) (by kernel_rfl) (by kernel_rfl) (by kernel_rfl) (fun _ _ _ h => h) (Or.inr ⟨by rfl, rfl⟩) (by assumption) ?_)
    | (refine wpAnyH_take (i := 4) (oi := _) (v := ?_) (dropAt rfl) (by kernel_rfl) (by kernel_rfl) (by kernel_rfl) (fun _ _ _ h => h) (Or.inl ⟨by rfl, ?_⟩) (by assumption) ?_; rotate_left; (focus (intro w2 hSw; (try dsimp only at hSw); go_simp; try with_reducible rfl)))
    | fail
  try simp only [Act.put, List.setIfInBounds_toArray, List.set_cons_zero, List.set_cons_succ]
  obtain ⟨gm, hgm⟩ : ∃ gm, W1.drew.heap.size = gm := ⟨_, rfl⟩
  have CM := Lib.hid (may_any W1.drew Av nv cv)
  rw [hgm] at CM
  have HG := Lib.hid hgm
  clear hgm
  refine wpAnyH_ready (rs := [5]) (by kernel_rfl) (by simp) ?_
  refine AllReadyH.cons (o := _) (dropAt rfl) (fun K hK => ?_) AllReadyH.nil
  go_simp
  (go_at_call 36; refine CM.out.mono ?_; rintro e w6 ⟨rfl, e6⟩; have H6 := Lib.hid (show Below W1.heap.size W1 w6 from by rw [e6]; exact (Below.refl _ _).drew.alloc (Nat.le_refl _) _); have k6 := Lib.hid (show w6.heap[gm]? = some (.cells #[.slice Av nv cv] 23 (0, 0)) from by rw [e6, ← HG.out]; exact heap_alloc_new W1.drew _); clear e6)
  refine hK.out _ _ ?_ (fun hHeld => ?_)
  · exact HSS.out _ H6.out
  clear hK K
  try simp only [Act.put, List.setIfInBounds_toArray, List.set_cons_zero, List.set_cons_succ]
  have CV := Lib.hid (index_may w6 A0 l.length k0 rows ⟨gm, 0, none⟩ (mayB v) (HSL.out _ H6.out).1 (by omega) (Lib.hid (fun y hy W bl => may1_any W v y.1 gm Av nv cv y.2.1.1 y.2.1.2.1 y.2.1.2.2 _ ((bl.block _ (lt_of_block k6.out)).trans k6.out) ((HSL.out _ (H6.out.trans (bl.mono H6.out.size))).2.1) HNV.out ((HSL.out _ (H6.out.trans (bl.mono H6.out.size))).2.2 y hy) (rightF_rec (HRW.out.2 y hy)).2)))
  refine wpAnyH_ready (rs := [6]) (by kernel_rfl) (by simp) ?_
  refine AllReadyH.cons (o := _) (dropAt rfl) (fun K hK => ?_) AllReadyH.nil
  go_simp
  (go_at_call 38; refine CV.out.mono ?_; rintro e w7 ⟨rfl, b7⟩; rw [HRW.out.1]; have H7 := Lib.hid (H6.out.trans (b7.mono H6.out.size)); clear b7)
  refine hK.out _ _ ?_ (fun hHeld => ?_)
  · exact HSS.out _ H7.out
  clear hK K
  try simp only [Act.put, List.setIfInBounds_toArray, List.set_cons_zero, List.set_cons_succ]
  clear CV CM k6 H6 HG
  first
    | (refine wpAnyH_take (i := 7) (oi := _) (v := undef) (dropAt rfl) (by kernel_rfl) (by kernel_rfl) (by kernel_rfl) (fun _ _ _ h => h) (Or.inr ⟨by rfl, rfl⟩) (by assumption) ?_)
    | (refine wpAnyH_take (i := 7) (oi := _) (v := ?_) (dropAt rfl) (by kernel_rfl) (by kernel_rfl) (by kernel_rfl) (fun _ _ _ h => h) (Or.inl ⟨by rfl, ?_⟩) (by assumption) ?_; rotate_left; (focus (intro w2 hSw; (try dsimp only at hSw); go_simp; try with_reducible rfl)))
    | fail
  try simp only [Act.put, List.setIfInBounds_toArray, List.set_cons_zero, List.set_cons_succ]
  refine wpAnyH_done (by kernel_rfl) ?_ _
  refine NoPanic.normal ?_
  clear hHeld HSS HSL HRW HNV
  cases hr : readyI l v with
  | none =>
    have hE : ∀ e W, (e = Ending.returned (.tuple #[.agg #[.int .i64 0, .int .i64 0, .string ⟨#[]⟩, .slice none 0 0, .slice none 0 0], .bool false]) ∧ InG W fp p room l ∧ Fr fp w W) → RdTo w fp p room l v e W := by
      intro e W hh
      unfold RdTo
      rw [hr]
      exact hh
    rw [idxV_none hr]
    have HE := Lib.hid hE
    have k7 := (H7.out.block _ HXL.out).trans HI.out.2.2
    have y0 := blk_cell (j := 0) k7 rfl
    have y1 := blk_cell (j := 1) k7 rfl
    have y2 := blk_cell (j := 2) k7 rfl
    have y3 := blk_cell (j := 3) k7 rfl
    have y4 := blk_cell (j := 4) k7 rfl
    have g0 := blk_free k7 0
    have g1 := blk_free k7 1
    have g2 := blk_free k7 2
    have g3 := blk_free k7 3
    have g4 := blk_free k7 4
    have HK := Lib.hid k7
    clear hE hr k7
    go_wp2
    refine bodyPost_ret (res_row_tmp rfl _ _ w.heap.size _ #[.int .i64 0, .int .i64 0, .string ⟨#[]⟩, .slice none 0 0, .slice none 0 0] _ _ rfl (set5_heap HK.out) Try.underlying35 rfl Try.infoFarSize) rfl ?_
    exact HE.out _ _ ⟨rfl, (HI.out.1.below H7.out).kept (set5_fr.kept fun i hi e => by have := HLT.out i hi; omega) set5_fr.size, ((Fr.of_below HB.out).trans (Fr.of_below H7.out (fp := fun _ => False)) (fun _ h => h.elim)).trans set5_fr (fun i hi => .inr (by omega))⟩
  | some k =>
    rw [idxV_some hr]
    obtain ⟨hkl, -, -⟩ := List.findIdx?_eq_some_iff_getElem.1 (show l.findIdx? (mayB v) = some k from hr)
    have hp7 := HI.out.2.1.kept HI.out.1.inp (Kept.below (fp := fp) H7.out)
    have h7 := HI.out.1.below H7.out
    obtain ⟨y, hy⟩ : ∃ y, rows[k]? = some y := ⟨_, List.getElem?_eq_getElem (by have := hp7.2.2.2.1; have h2 : rows.length = l.length := by rw [← this, List.length_map]
                                                                                omega)⟩
    have hly : l[k]? = some y.1 := by rw [← hp7.2.2.2.1, List.getElem?_map, hy]; rfl
    have hE : ∀ e W, (e = Ending.returned (.tuple #[.agg #[.int .i64 y.1.src, .int .i64 y.1.seq, .string y.1.rc.key, .slice y.2.1.1 y.2.1.2.1 y.2.1.2.2, .slice y.2.2.1 y.2.2.2.1 y.2.2.2.2], .bool true]) ∧ FaD W fp y ∧ InG W fp p room (l.eraseIdx k) ∧ Fr fp w W) → RdTo w fp p room l v e W := by
      intro e W hh
      unfold RdTo
      rw [hr]
      exact ⟨y, hly, hh⟩
    obtain ⟨g, cc, hv, c1, hc, -, hgl⟩ := hp7.at_ hy
    injection hv with hv1 _ hv2
    subst hv1 hv2
    have x0 : w7.cell? ⟨g, k * 5, none⟩ = some (.int .i64 y.1.src) := hc 0 _ (by omega) rfl
    have x1 := hc 1 _ (by omega) rfl
    have x2 := hc 2 _ (by omega) rfl
    have x3 := hc 3 _ (by omega) rfl
    have x4 := hc 4 _ (by omega) rfl
    have b8 : Below w7.heap.size w7 (w7.alloc (.cells #[.int .i64 y.1.src, .int .i64 y.1.seq, .string y.1.rc.key, .slice y.2.1.1 y.2.1.2.1 y.2.1.2.2, .slice y.2.2.1 y.2.2.2.1 y.2.2.2.2] 35)) := (Below.refl _ _).alloc (Nat.le_refl _) _
    have k8 := heap_alloc_new w7 (.cells #[.int .i64 y.1.src, .int .i64 y.1.seq, .string y.1.rc.key, .slice y.2.1.1 y.2.1.2.1 y.2.1.2.2, .slice y.2.2.1 y.2.2.2.1 y.2.2.2.2] 35)
    have h8 := h7.below b8
    have hp8 := hp7.kept h7.inp (Kept.below (fp := fp) b8)
    obtain ⟨g2, kc, cur, e1, hg, hcs, hk1, hk2, hone, hfg, hrest⟩ := h8.cut_ hp8 hkl
    injection e1 with e1 _ e2
    injection e1 with e1
    injection e1 with e1
    subst e1 e2
    have CD := Lib.hid (delete_any g k0 l.length k cur _ hg hcs hkl hk1 hk2 hone)
    have HR := Lib.hid hrest
    have c2 := row_cell (j := 1) hp8.1 rfl
    have hw1 : IntKind.i64.wrap ((k : Int) + 1) = (k : Int) + 1 := IntWalk.i64_in _ (by omega)
    have i0 : (0 : Int) ≤ (k : Int) := by omega
    have i1 : (k : Int) < (l.length : Int) := by omega
    have q1 : decide ((k : Int) < 0) = false := decide_eq_false (by omega)
    have hs8 : (w7.alloc (.cells #[.int .i64 y.1.src, .int .i64 y.1.seq, .string y.1.rc.key, .slice y.2.1.1 y.2.1.2.1 y.2.1.2.2, .slice y.2.2.1 y.2.2.2.1 y.2.2.2.2] 35)).heap.size = w7.heap.size + 1 := by simp
    have k9 := (b8.block _ (Nat.lt_of_lt_of_le HXL.out H7.out.size)).trans ((H7.out.block _ HXL.out).trans HI.out.2.2)
    have hpg : g ≠ w.heap.size := fun e => by have := HLT.out g hfg; omega
    have HE := Lib.hid hE
    have HK := Lib.hid (And.intro k8 (And.intro k9 (And.intro hy (And.intro hgl (And.intro hfg hpg)))))
    have HB8 := Lib.hid b8
    clear hE hr hp7 h7 hly hc b8 k8 h8 hp8 hg hcs hk1 hk2 hone hfg hrest k9 hy hpg hgl
    go_wp2_with fail
    refine CD.out.mono ?_
    rintro e w9 ⟨rfl, hcur, F1⟩
    obtain ⟨t1, t2, t3, t4⟩ := HR.out w9 hcur F1
    obtain ⟨k8, k9, hy, hgl, hfg, hpg⟩ := HK.out
    have hgz : w7.heap.size ≠ g := by omega
    have m8 := (F1.block w7.heap.size (by rw [hs8]; omega) hgz).trans k8
    have m9 := (F1.block w.heap.size (by have := lt_of_block k9; exact this) (Ne.symm hpg)).trans k9
    have y1 := row_cell (j := 1) t1 rfl
    have f1 := frozen_of_row w9 p 1 _ _ t1
    have hpt : p < w.heap.size := HLT.out p HI.out.1.inp
    have hps : p ≠ w7.heap.size := by have := H7.out.size; have := HXL.out; omega
    have m8' := (Below.heap_setCell w9 ⟨p, 1, none⟩ (.slice (some ⟨g, 0, none⟩) (l.length - 1) k0) w7.heap.size (by simpa using hps.symm)).trans m8
    have m9' := (Below.heap_setCell w9 ⟨p, 1, none⟩ (.slice (some ⟨g, 0, none⟩) (l.length - 1) k0) w.heap.size (by simp; omega)).trans m9
    have n0 := row_cell (j := 0) m8' rfl
    have n1 := row_cell (j := 1) m8' rfl
    have n2 := row_cell (j := 2) m8' rfl
    have n3 := row_cell (j := 3) m8' rfl
    have n4 := row_cell (j := 4) m8' rfl
    have u0 := blk_cell (j := 0) m9' rfl
    have u1 := blk_cell (j := 1) m9' rfl
    have u2 := blk_cell (j := 2) m9' rfl
    have u3 := blk_cell (j := 3) m9' rfl
    have u4 := blk_cell (j := 4) m9' rfl
    have v0 := blk_free m9' 0
    have v1 := blk_free m9' 1
    have v2 := blk_free m9' 2
    have v3 := blk_free m9' 3
    have v4 := blk_free m9' 4
    have HM := Lib.hid m9'
    have HQ := Lib.hid (And.intro (t2 y (List.mem_of_getElem? hy)) (And.intro t3 t4))
    clear CD hcur F1 t1 t2 t3 t4 k8 k9 hy hgl hfg hpg hgz m8 m9 m8' m9' hpt hps c1 c2 x0 x1 x2 x3 x4 HR HK
    go_wp2
    refine bodyPost_ret (res_row_tmp rfl _ _ w.heap.size _ #[.int .i64 y.1.src, .int .i64 y.1.seq, .string y.1.rc.key, .slice y.2.1.1 y.2.1.2.1 y.2.1.2.2, .slice y.2.2.1 y.2.2.2.1 y.2.2.2.2] _ _ rfl (set5_heap HM.out) Try.underlying35 rfl Try.infoFarSize) rfl ?_
    have K5 : Kept fp (w9.setCell ⟨p, 1, none⟩ (.slice (some ⟨g, 0, none⟩) (l.length - 1) k0)) (set5 _ w.heap.size (.int .i64 y.1.src) (.int .i64 y.1.seq) (.string y.1.rc.key) (.slice y.2.1.1 y.2.1.2.1 y.2.1.2.2) (.slice y.2.2.1 y.2.2.2.1 y.2.2.2.2)) := set5_fr.kept fun i hi e => by have := HLT.out i hi; omega
    exact HE.out _ _ ⟨rfl, HQ.out.1.keep (KeepD.of K5), HQ.out.2.1.kept K5 set5_fr.size, ((((Fr.of_below HB.out).trans (Fr.of_below H7.out (fp := fun _ => False)) (fun _ h => h.elim)).trans (Fr.of_below HB8.out (fp := fun _ => False)) (fun _ h => h.elim)).trans HQ.out.2.2 (fun i hi => .inl hi)).trans set5_fr (fun i hi => .inr (by omega))⟩
end
end Go.Proofs.Ytilagblpamhmkaa
