/-
  firthref18: Clean.
-/
import Derived.Test.YtilagblpamhmkaaInboxRefReady
namespace Go.Proofs.Ytilagblpamhmkaa
open Go.RowKit
set_option linter.unusedVariables false

/-- What Clean leaves. -/
def RCleanTo (w : World) (fp : Nat → Prop) (q : Nat) (room : Int) (l : List Fa) (v : List Int) (e : Ending) (w' : World) : Prop :=
  ∃ (A : Option Addr) (n c : Nat) (rows : List RFa) (fp' : Nat → Prop), e = .returned (.slice A n c) ∧ rows.map (·.1) = l.filter (covB v) ∧ FRow w' A n rows ∧ RInG w' fp' q room (l.filter fun f => !covB v f) ∧ Fr fp w w' ∧ Grow w fp fp'
/-- The two lists so far. -/
structure RcI (w : World) (v : List Int) (rows : List RFa) (k : Nat) (wr : World) (Ao : Option Addr) (no co : Nat) (Al : Option Addr) (nl cl : Nat) : Prop where
  oo : wr.ownsRow w.heap.size 61 5 (.slice Ao no co) no ((goneR v (rows.take k)).flatMap fV1)
  ol : wr.ownsRow w.heap.size 61 5 (.slice Al nl cl) nl ((keepR v (rows.take k)).flatMap fV1)
  apart : ∀ g, (Value.slice Ao no co).ownBlock = some g → (Value.slice Al nl cl).ownBlock ≠ some g
  bel : Below w.heap.size w wr
section
variable {w wr w7 w9 : World} {v : List Int} {rows : List RFa} {k : Nat} {Ao Al A9 : Option Addr} {no co nl cl c9 : Nat} {y : RFa} {o : Obj}
theorem RcI.yes (h : RcI w v rows k wr Ao no co Al nl cl) (hy : rows[k]? = some y) (hc : covB v y.1 = true) (b7 : Below wr.heap.size wr w7)
    (own9 : w9.ownsRow w.heap.size 61 5 (.slice A9 (no + 1) c9) (no + 1) ((goneR v (rows.take k)).flatMap fV1 ++ fV1 y)) (g9 : (w7.alloc o).grownBy w9 (Value.slice Ao no co).ownBlock) (hv : (Value.slice A9 (no + 1) c9).ownBlock = (Value.slice Ao no co).ownBlock ∨ (Value.slice A9 (no + 1) c9).ownBlock = some (w7.alloc o).heap.size) :
    RcI w v rows (k + 1) w9 A9 (no + 1) c9 Al nl cl := by
  obtain ⟨e1, e2⟩ := keepR_yes hy hc
  have hs7 := b7.size
  have hsb := h.bel.size
  have ol9 : w9.ownsRow w.heap.size 61 5 (.slice Al nl cl) nl ((keepR v (rows.take k)).flatMap fV1) := by
    refine own_keep (fp := fun b => (Value.slice Al nl cl).ownBlock = some b) ((own_below (own_base h.ol 0 (fun _ _ => Nat.zero_le _)) b7).alloc o |> fun x => own_base x w.heap.size (fun g hg => (h.ol.lt g hg).1)) (fun g hg => hg) (Kept.grown g9 fun g hg hh => h.apart g hg hh)
  refine ⟨by rw [e2, List.flatMap_append]; simpa using own9, by rw [e1]; exact ol9, fun g hg hh => ?_, ?_⟩
  · rcases hv with e | e
    · exact h.apart g (by rw [← e]; exact hg) hh
    · rw [e] at hg
      injection hg with hg
      have := (h.ol.lt g hh).2
      simp at hg
      omega
  · exact ((h.bel.trans (b7.mono hsb)).alloc (by omega) o).grown g9 (by simp; omega) (fun g hg => (h.oo.lt g hg).1)
theorem RcI.stay (h : RcI w v rows k wr Ao no co Al nl cl) (hy : rows[k]? = some y) (hc : covB v y.1 = false) (b7 : Below wr.heap.size wr w7)
    (own9 : w9.ownsRow w.heap.size 61 5 (.slice A9 (nl + 1) c9) (nl + 1) ((keepR v (rows.take k)).flatMap fV1 ++ fV1 y)) (g9 : (w7.alloc o).grownBy w9 (Value.slice Al nl cl).ownBlock) (hv : (Value.slice A9 (nl + 1) c9).ownBlock = (Value.slice Al nl cl).ownBlock ∨ (Value.slice A9 (nl + 1) c9).ownBlock = some (w7.alloc o).heap.size) :
    RcI w v rows (k + 1) w9 Ao no co A9 (nl + 1) c9 := by
  obtain ⟨e1, e2⟩ := keepR_no hy hc
  have hs7 := b7.size
  have hsb := h.bel.size
  have oo9 : w9.ownsRow w.heap.size 61 5 (.slice Ao no co) no ((goneR v (rows.take k)).flatMap fV1) := by
    refine own_keep (fp := fun b => (Value.slice Ao no co).ownBlock = some b) ((own_below (own_base h.oo 0 (fun _ _ => Nat.zero_le _)) b7).alloc o |> fun x => own_base x w.heap.size (fun g hg => (h.oo.lt g hg).1)) (fun g hg => hg) (Kept.grown g9 fun g hg hh => h.apart g hh hg)
  refine ⟨by rw [e2]; exact oo9, by rw [e1, List.flatMap_append]; simpa using own9, fun g hg hh => ?_, ?_⟩
  · rcases hv with e | e
    · exact h.apart g hg (by rw [← e]; exact hh)
    · rw [e] at hh
      injection hh with hh
      have := (h.oo.lt g hg).2
      simp at hh
      omega
  · exact ((h.bel.trans (b7.mono hsb)).alloc (by omega) o).grown g9 (by simp; omega) (fun g hg => (h.ol.lt g hg).1)
end
section
variable {w w' : World} {fp fp' : Nat → Prop} {q : Nat} {room : Int} {l : List Fa}
set_option maxHeartbeats 20000000 in
set_option maxRecDepth 100000 in
theorem rclean_any (Av : Option Addr) (nv cv : Nat) (v : List Int) (h : RInG w fp q room l) (hsv : SlI w Av nv v) (hnv : nv ≤ 140737488351232) (hl : l.length * 80 ≤ 140737488355328) :
    Calls Try.prog 28 #[.pointer (some ⟨q, 0, none⟩), .slice Av nv cv] w (RCleanTo w fp q room l v) := by
  obtain ⟨i0, hi, hz0, hz1, hz2⟩ := info_parts Try.infoRFar
  obtain ⟨lv, rows, hp⟩ := h.ex
  obtain ⟨A0, k0, rfl, hk0, hkm⟩ := own_slice hp.2.1
  have HP := Lib.hid hp
  have HH := Lib.hid h
  have hpl := h.lt _ h.inp
  have HQS := Lib.hid (fun (W' : World) (bl : Below w.heap.size w W') => And.intro ((bl.block q (lt_of_block hp.1)).trans hp.1) (And.intro (show SlI W' Av nv v from Sl.below hsv bl) (And.intro (show Sl W' A0 l.length 5 (rows.flatMap fV1) from Sl.below (Sl.of_own hp.2.1) bl) (fun y hy => ((hp.2.2.2.2 y hy).vs.slv.below bl)))))
  have HRW := Lib.hid (And.intro hp.2.2.2.1 (fun y hy => (hp.2.2.2.2 y hy).right))
  have HNV := Lib.hid hnv
  have hrl0 : rows.length = l.length := by rw [← hp.2.2.2.1, List.length_map]
  have HRL := Lib.hid hrl0
  clear h hp hsv hnv hrl0
  go_enter Try.func28, Try.ntmps28
  go_wp2_with fail
  go_loopw [5, 6, 7] (fun t5 t6 t7 wr => ∃ (k : Nat) (Ao : Option Addr) (no co : Nat) (Al : Option Addr) (nl cl : Nat), t5 = .slice Ao no co ∧ t6 = .slice Al nl cl ∧ t7 = .int .i64 (k : Int) ∧ k ≤ l.length ∧ Hid (RcI w v rows k wr Ao no co Al nl cl)) (fun _ _ t7 _ => l.length - (intOf t7).toNat)
  case atStart => exact ⟨0, none, 0, 0, none, 0, 0, rfl, rfl, rfl, Nat.zero_le _, ⟨World.ownsRow_nil _ _ _ _, World.ownsRow_nil _ _ _ _, fun g hg => (nomatch hg), Below.refl _ _⟩⟩
  case round =>
    obtain ⟨k, Ao, no, co, Al, nl, cl, rfl, rfl, rfl, hk, HR⟩ := hrel
    obtain ⟨kq, hsv, hsl, hvs⟩ := HQS.out wr HR.out.bel
    have u1 := row_cell (j := 1) kq rfl
    have hno : no ≤ k := by
      have h1 := HR.out.oo.1
      have h2 := goneR_len v (rows.take k)
      rw [flat_len fV1_len] at h1
      rw [List.length_take, HRL.out] at h2
      omega
    have hnl : nl ≤ k := by
      have h1 := HR.out.ol.1
      have h2 := keepR_len v (rows.take k)
      rw [flat_len fV1_len] at h1
      rw [List.length_take, HRL.out] at h2
      omega
    by_cases hlt : k < l.length
    · obtain ⟨x, hx⟩ : ∃ x, l[k]? = some x := ⟨_, List.getElem?_eq_getElem hlt⟩
      obtain ⟨⟨x', ⟨Ax, nx, cx⟩, Ax2, nx2, cx2⟩, hy, rfl⟩ := row_get HRW.out.1 hx
      obtain ⟨gx, ox, rfl, hc⟩ := far_at hsl hy
      have x0 : wr.cell? ⟨gx, ox + k * 5, none⟩ = some (.int .i64 x'.src) := hc 0 _ (by omega) rfl
      have x1 := hc 1 _ (by omega) rfl
      have x2 := hc 2 _ (by omega) rfl
      have x3 := hc 3 _ (by omega) rfl
      have x4 := hc 4 _ (by omega) rfl
      have hm := List.mem_of_getElem? hy
      obtain ⟨_, _, _, _, _, -, -, -, -, -, hvr⟩ := ver_at (hvs _ hm) (rightF_rec (HRW.out.2 _ hm)).2
      have hwf := bounds_i64 hvr.wf.1
      have HWF := Lib.hid hwf
      have C1 := Lib.hid (rdot_any wr x' Ax nx cx (.slice Ax2 nx2 cx2) (hvs _ hm) (rightF_rec (HRW.out.2 _ hm)).2)
      have HSV := Lib.hid hsv
      have HY := Lib.hid hy
      have k0' : (0 : Int) ≤ (k : Int) := by omega
      have k1' : (k : Int) < (l.length : Int) := by omega
      clear kq hsv hsl hvs hx hy hc hm hvr hwf
      go_wp2_with fail
      refine C1.out.mono ?_
      rintro e w6 ⟨rfl, b6⟩
      have C2 := refCovers_any Av nv cv v x'.ver.s x'.ver.n w6 (Sl.below HSV.out b6) HNV.out HWF.out.1 HWF.out.2
      obtain ⟨bb, hbb⟩ : ∃ bb, covB v x' = bb := ⟨_, rfl⟩
      rw [show coversB v x'.ver.s x'.ver.n = bb from hbb] at C2
      have C2 := Lib.hid C2
      have HBB := Lib.hid hbb
      have HB6 := Lib.hid b6
      clear hbb C1 b6
      go_wp2_with fail
      refine C2.out.mono ?_
      rintro e w7 ⟨rfl, b7⟩
      have hb7 := HB6.out.trans (b7.mono HB6.out.size)
      have y0 := cell_up x0 hb7
      have y1 := cell_up x1 hb7
      have y2 := cell_up x2 hb7
      have y3 := cell_up x3 hb7
      have y4 := cell_up x4 hb7
      have v1 := cell_up u1 hb7
      have HB7 := Lib.hid hb7
      have hsz := HR.out.bel.size
      have hsz7 := hb7.size
      have HOO := Lib.hid (own_below (own_base HR.out.oo 0 (fun _ _ => Nat.zero_le _)) hb7)
      have HOL := Lib.hid (own_below (own_base HR.out.ol 0 (fun _ _ => Nat.zero_le _)) hb7)
      have o7 : w7.ownsRow w.heap.size 61 5 (.slice Ao no co) no ((goneR v (rows.take k)).flatMap fV1) := own_base HOO.out w.heap.size (fun g hg => (HR.out.oo.lt g hg).1)
      have l7 : w7.ownsRow w.heap.size 61 5 (.slice Al nl cl) nl ((keepR v (rows.take k)).flatMap fV1) := own_base HOL.out w.heap.size (fun g hg => (HR.out.ol.lt g hg).1)
      have H7 := Lib.hid (And.intro o7 l7)
      clear b7 C2 x0 x1 x2 x3 x4 u1 hb7 o7 l7
      cases bb
      · go_wp2_with (first | (at_builtin; refine wpList_append_sl _ rfl (.tmp 37) (.tmp 45) 64 rfl (w.heap.size) 61 i0 (.agg #[.int .i64 0, .int .i64 0, .string ⟨#[]⟩, .slice none 0 0, .slice none 0 0]) 5 80 Try.underlying64 hi hz0 hz1 hz2 rfl (by decide) (.slice Al nl cl) (nl) ((keepR v (rows.take k)).flatMap fV1) rfl (H7.out.2.alloc _) (some ⟨w7.heap.size, 0, none⟩) (1) (1) (fV1 (x', (Ax, nx, cx), (Ax2, nx2, cx2))) rfl (sl_lit _ _ _ _ 1 5 _ rfl rfl rfl) (fV1_one _) (by unfold maxLen; omega) (by omega) (by simp; omega) ?_) | fail)
        intro v9 w9 own9 g9 hv9
        obtain ⟨A9, c9, rfl, -, -⟩ := own_slice own9
        have HS := Lib.hid (HR.out.stay HY.out HBB.out HB7.out own9 g9 (by simpa using hv9))
        clear own9 g9 hv9
        go_wp2
        go_roundw
        case rel => exact ⟨k + 1, Ao, no, co, A9, nl + 1, c9, rfl, rfl, by go_num, by omega, HS⟩
        case measure => simp [intOf]; omega
      · go_wp2_with (first | (at_builtin; refine wpList_append_sl _ rfl (.tmp 27) (.tmp 35) 64 rfl (w.heap.size) 61 i0 (.agg #[.int .i64 0, .int .i64 0, .string ⟨#[]⟩, .slice none 0 0, .slice none 0 0]) 5 80 Try.underlying64 hi hz0 hz1 hz2 rfl (by decide) (.slice Ao no co) (no) ((goneR v (rows.take k)).flatMap fV1) rfl (H7.out.1.alloc _) (some ⟨w7.heap.size, 0, none⟩) (1) (1) (fV1 (x', (Ax, nx, cx), (Ax2, nx2, cx2))) rfl (sl_lit _ _ _ _ 1 5 _ rfl rfl rfl) (fV1_one _) (by unfold maxLen; omega) (by omega) (by simp; omega) ?_) | fail)
        intro v9 w9 own9 g9 hv9
        obtain ⟨A9, c9, rfl, -, -⟩ := own_slice own9
        have HS := Lib.hid (HR.out.yes HY.out HBB.out HB7.out own9 g9 (by simpa using hv9))
        clear own9 g9 hv9
        go_wp2
        go_roundw
        case rel => exact ⟨k + 1, A9, no + 1, c9, Al, nl, cl, rfl, rfl, by go_num, by omega, HS⟩
        case measure => simp [intOf]; omega
    · obtain rfl : k = l.length := by omega
      obtain ⟨oo, ol, ap, bel⟩ := HR.out
      rw [List.take_of_length_le (show rows.length ≤ l.length by rw [HRL.out]; exact Nat.le_refl _)] at oo ol
      have hnl2 : (l.filter fun f => !covB v f).length = nl := by
        rw [← HRW.out.1, ← map_keepR, List.length_map]
        have := ol.1
        rw [flat_len fV1_len] at this
        omega
      obtain ⟨a1, a2, a3, a4⟩ := HH.out.relist (l' := l.filter fun f => !covB v f) (rows' := keepR v rows) (v3 := .slice Al nl cl) HP.out (Fr.of_below bel) (by rw [hnl2]; exact own_lower ol (Nat.zero_le _)) (fun g hg => .inr (ol.lt g hg).1) (by rw [map_keepR, HRW.out.1]) (fun y hy => .inr (HP.out.2.2.2.2 y (List.mem_filter.1 hy).1))
      have hfr : FRow (wr.setCell ⟨q, 1, none⟩ (.slice Al nl cl)) Ao no (goneR v rows) := by
        refine FRow.of (fp := fp) (Sl.of_own (own_keep oo (fp := fun b => b ≠ q) (fun g hg e => by have := (oo.lt g hg).1; omega) (Kept.set _ (fun hh => hh rfl)))) fun y hy => ?_
        refine ((HP.out.2.2.2.2 _ (List.mem_filter.1 hy).1).keep (KeepD.of (Kept.below bel))).keep fun b cs t ht _ ho => ?_
        refine Kept.set (fp := fun b => b ≠ q) _ (fun hh => hh rfl) b _ (fun e => ?_) ho
        subst e
        have h1 : t ≠ 66 := by rcases ht with rfl | rfl | rfl <;> decide
        exact tag_neI ho kq h1 rfl
      have HE := Lib.hid (show RCleanTo w fp q room l v (.returned (.slice Ao no co)) (wr.setCell ⟨q, 1, none⟩ (.slice Al nl cl)) from
        ⟨Ao, no, co, goneR v rows, _, rfl, by rw [map_goneR, HRW.out.1], hfr, a1, a4, fun b hb => hb.elim .inl (fun hh => .inr hh.1)⟩)
      have f1 := a3 1
      clear oo ol ap bel hnl2 a1 a3 a4 hfr kq hsv hsl hvs
      go_wp2
      go_ret
      exact HE.out
end
end Go.Proofs.Ytilagblpamhmkaa
