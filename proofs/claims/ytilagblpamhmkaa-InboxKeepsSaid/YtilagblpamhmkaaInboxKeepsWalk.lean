/-
  firthlaw18.InboxKeeps
-/
import Derived.Test.YtilagblpamhmkaaInboxSpoil
namespace Go.Proofs.Ytilagblpamhmkaa
open Go.RowKit
set_option linter.unusedVariables false

theorem keepI_take {f : Fa} (h : rightF f = true) : takeA 1 [] f [0] = 2 ∧ takeI 1 [] f [0] = [f] := by
  have h1 := fa_pos h
  refine takeA_kept h ?_ rfl (by simp)
  unfold covB
  obtain ⟨hrr, hr1⟩ := rightF_rec h
  by_cases hn : 1 ≤ f.ver.n
  · by_cases hs : f.ver.s = 1
    · unfold coversB
      rw [hs]
      simp
      omega
    · exact covers_no (by simp; omega)
  · exact covers_no (by omega)
set_option maxHeartbeats 8000000 in
set_option maxRecDepth 100000 in
theorem inboxKeeps_in (f : Fa) (A : Option Addr) (n c : Nat) (A2 : Option Addr) (n2 c2 : Nat) (W : World) (hv : FaV W f A n c A2 n2 c2) :
    Calls Try.prog 6 #[.agg #[.int .i64 f.src, .int .i64 f.seq, .string f.rc.key, .slice A n c, .slice A2 n2 c2]] W fun e w' => e = .returned (.bool true) ∧ Below W.heap.size W w' := by
  obtain ⟨i0, hi, hz0, hz1, hz2⟩ := info_parts Try.infoInt'
  have b1 : Below W.heap.size W (W.alloc (.cells #[.int .i64 f.src, .int .i64 f.seq, .string f.rc.key, .slice A n c, .slice A2 n2 c2] 35)) := (Below.refl _ _).alloc (Nat.le_refl _) _
  have k1 := heap_alloc_new W (.cells #[.int .i64 f.src, .int .i64 f.seq, .string f.rc.key, .slice A n c, .slice A2 n2 c2] 35)
  have hs1 : (W.alloc (.cells #[.int .i64 f.src, .int .i64 f.seq, .string f.rc.key, .slice A n c, .slice A2 n2 c2] 35)).heap.size = W.heap.size + 1 := by simp
  obtain ⟨W1, hW1⟩ : ∃ W1, W.alloc (.cells #[.int .i64 f.src, .int .i64 f.seq, .string f.rc.key, .slice A n c, .slice A2 n2 c2] 35) = W1 := ⟨_, rfl⟩
  rw [hW1] at b1 k1 hs1
  have hv1 := hv.below b1
  obtain ⟨fb, hfb⟩ : ∃ fb, W.heap.size = fb := ⟨_, rfl⟩
  rw [hfb] at k1 hs1
  have HF := Lib.hid (fun (W' : World) (bl : Below W1.heap.size W1 W') => And.intro (show Blk W' fb 35 _ from (bl.block _ (by omega)).trans k1) (hv1.below bl))
  have HWW := Lib.hid b1
  have HW1 := Lib.hid hW1
  have HFB := Lib.hid hfb
  have hn2 : n2 * 8 ≤ 140737488351232 := hv.len
  have hc2 : n2 ≤ c2 := hv.cap
  have C0 := Lib.hid (awake_any W1)
  clear b1 k1 hW1 hv hv1 hfb
  go_enter Try.func6, Try.ntmps6
  go_wp2_with fail
  rw [HW1.out, HFB.out]
  refine C0.out.mono ?_
  rintro e w2 ⟨rfl, b2⟩
  obtain ⟨k2, v2⟩ := HF.out w2 b2
  have x0 := k2.cell (i := 0) rfl
  have x1 := k2.cell (i := 1) rfl
  have x2 := k2.cell (i := 2) rfl
  have x3 := k2.cell (i := 3) rfl
  have x4 := k2.cell (i := 4) rfl
  have CR := rightL_any w2 f A n c (.slice A2 n2 c2) v2.rc
  have HB2 := Lib.hid b2
  clear k2 v2 b2 C0
  cases hr : rightF f
  · rw [hr] at CR
    have CR := Lib.hid CR
    clear hr
    go_wp2_with fail
    refine CR.out.mono ?_
    rintro e w3 ⟨rfl, b3⟩
    have HB3 := Lib.hid (HB2.out.trans (b3.mono HB2.out.size))
    have C1 := Lib.hid (awake_any w3)
    clear b3 CR x0 x1 x2 x3 x4
    go_wp2_with fail
    refine C1.out.mono ?_
    rintro e w4 ⟨rfl, b4⟩
    have HE := Lib.hid (HWW.out.trans ((HB3.out.trans (b4.mono HB3.out.size)).mono HWW.out.size))
    clear b4 C1
    go_wp2
    go_ret
    exact ⟨rfl, by rw [HFB.out] at HE ⊢; exact HE.out⟩
  · rw [hr] at CR
    have CR := Lib.hid CR
    have HR := Lib.hid hr
    clear hr
    go_wp2_with fail
    refine CR.out.mono ?_
    rintro e w3 ⟨rfl, b3⟩
    have HB3 := Lib.hid (HB2.out.trans (b3.mono HB2.out.size))
    have C2 := Lib.hid (newP 1 w3)
    clear b3 CR x0 x1 x2 x3 x4 HB2
    go_wp2_with fail
    refine C2.out.mono ?_
    rintro e w4 ⟨rfl, h4, b4⟩
    rw [show max (1 : Int) 0 = 1 from rfl] at h4
    have HB4 := Lib.hid (HB3.out.trans (b4.mono HB3.out.size))
    have HI4 := Lib.hid h4
    have hp4 := h4.ptr.1
    have hs34 := b4.size
    have hs13 := HB3.out.size
    obtain ⟨p, hp⟩ : ∃ p, w3.heap.size = p := ⟨_, rfl⟩
    obtain ⟨mb, hmb⟩ : ∃ mb, w4.heap.size = mb := ⟨_, rfl⟩
    rw [hp] at HI4 hp4 hs34 hs13
    rw [hmb] at hp4 hs34
    have HP := Lib.hid hp
    have HMB := Lib.hid hmb
    obtain ⟨k4, v4⟩ := HF.out w4 HB4.out
    have x0 := k4.cell (i := 0) rfl
    have x1 := k4.cell (i := 1) rfl
    have x2 := k4.cell (i := 2) rfl
    have x3 := k4.cell (i := 3) rfl
    have x4 := k4.cell (i := 4) rfl
    have b5 : Below mb w4 (w4.alloc (.cells #[.int .i64 f.src, .int .i64 f.seq, .string f.rc.key, .slice A n c, .slice A2 n2 c2] 35)) := (Below.refl _ _).alloc (by omega) _
    have k5 := heap_alloc_new w4 (.cells #[.int .i64 f.src, .int .i64 f.seq, .string f.rc.key, .slice A n c, .slice A2 n2 c2] 35)
    have hs5 : (w4.alloc (.cells #[.int .i64 f.src, .int .i64 f.seq, .string f.rc.key, .slice A n c, .slice A2 n2 c2] 35)).heap.size = mb + 1 := by simp; omega
    obtain ⟨w5, hw5⟩ : ∃ w5, w4.alloc (.cells #[.int .i64 f.src, .int .i64 f.seq, .string f.rc.key, .slice A n c, .slice A2 n2 c2] 35) = w5 := ⟨_, rfl⟩
    rw [hw5] at b5 k5 hs5
    rw [hmb] at k5
    have HW5 := Lib.hid hw5
    have h45 := HB4.out.trans (b5.mono (by have := HB4.out.size; omega))
    obtain ⟨k5f, v5⟩ := HF.out w5 h45
    have z2 := k5f.cell (i := 2) rfl
    have z3 := k5f.cell (i := 3) rfl
    rw [← hw5] at z2 z3
    have CO := Lib.hid (refOwn_any w5 f.rc A n c v5.rc)
    have HB5 := Lib.hid b5
    have HK5 := Lib.hid k5
    clear b4 h4 C2 hp hmb k4 v4 hw5 h45 k5f v5 b5 k5
    go_wp2_with fail
    rw [HMB.out, HW5.out, HP.out]
    refine CO.out.mono ?_
    rintro e w6 ⟨A6, n6, c6, rows, rfl, hm6, ov6, hl6, hc6, b6⟩
    have k6 := (b6.block _ (lt_of_block HK5.out)).trans HK5.out
    have hs56 := b6.size
    have x0 := row_cell (j := 0) k6 rfl
    have x1 := row_cell (j := 1) k6 rfl
    have x2 := row_cell (j := 2) k6 rfl
    have x3 := row_cell (j := 3) k6 rfl
    have x4 := row_cell (j := 4) k6 rfl
    have f2 := frozen_of_row w6 mb 2 _ _ k6
    have f3 := frozen_of_row w6 mb 3 _ _ k6
    have F7 : Fr (fun i => i = mb) w6 ((w6.setCell ⟨mb, 2, none⟩ (.string f.rc.key)).setCell ⟨mb, 3, none⟩ (.slice A6 n6 c6)) :=
      (Fr.set w6 ⟨mb, 2, none⟩ _).trans (Fr.set _ ⟨mb, 3, none⟩ _) (fun i hi => .inl hi)
    have k7 := heap_setCell_same _ mb 3 _ _ (.slice A6 n6 c6) (heap_setCell_same w6 mb 2 _ _ (.string f.rc.key) k6)
    obtain ⟨w7, hw7⟩ : ∃ w7, (w6.setCell ⟨mb, 2, none⟩ (.string f.rc.key)).setCell ⟨mb, 3, none⟩ (.slice A6 n6 c6) = w7 := ⟨_, rfl⟩
    rw [hw7] at F7 k7
    have hs67 := F7.size
    have ov7 := ov6.keepI F7 (fun i hi e => by omega)
    have HB7 := (HB5.out.trans (b6.mono (by omega))).trans (F7.below (B := mb) (fun i hi => by omega) (by omega))
    have h47 := HB4.out.trans (HB7.mono (by have := HB4.out.size; omega))
    obtain ⟨k7f, v7⟩ := HF.out w7 h47
    have z4 := k7f.cell (i := 4) rfl
    have z4' := (Below.heap_alloc w7 (.cells #[] 3) _ (lt_of_block k7f)).trans k7f
    have y4 := row_cell (j := 4) z4' rfl
    rw [← hw7] at y4
    have HW7 := Lib.hid hw7
    have hs7 := v7.ro
    have o7 : ((w7.alloc (.cells #[] 3))).ownsRow w6.heap.size 3 1 (.slice (some ⟨w6.heap.size, 0, none⟩) 0 0) 0 [] := ownEmpty' w7 _ w6.heap.size _ 1 (by rw [← hw7]; simp) (Nat.le_refl _)
    rw [← hw7] at hs7 o7
    have HS7 := Lib.hid hs7
    have HO7 := Lib.hid o7
    have H7 := Lib.hid (And.intro ov7 (And.intro HB7 (And.intro k7 h47)))
    clear k6 F7 k7 hw7 ov7 HB7 h47 k7f v7 z4 z4' hs7 o7 ov6 b6 CO z2 z3 HK5 HB5
    go_wp2_with (first | (at_builtin; refine wpList_append_sl _ rfl (.tmp 25) (.tmp 27) 33 rfl (w6.heap.size) 3 i0 (.int .i64 0) 1 8 Try.underlying33 hi hz0 hz1 hz2 rfl (by decide) (.slice (some ⟨w6.heap.size, 0, none⟩) 0 0) (0) ([]) rfl (HO7.out) (A2) (n2) (c2) (f.route.map (Value.int .i64)) rfl (Sl.alloc HS7.out _) (intV_one _) (by unfold maxLen; omega) (by omega) (by simp) ?_) | fail)
    intro v8 w8 own8 g8 _
    obtain ⟨A8, c8, rfl, hc8, -⟩ := own_slice own8
    rw [HW7.out] at g8
    obtain ⟨ov7, b7, k7, h47⟩ := H7.out
    have hs7 : w7.heap.size = w6.heap.size := by rw [← HW7.out]; simp
    have b8 : Below w7.heap.size w7 w8 := ((Below.refl _ _).alloc (Nat.le_refl _) _).grown g8 (by simp) (fun q hq => by simp [Value.ownBlock] at hq; omega)
    have k8 := (b8.block _ (lt_of_block k7)).trans k7
    have ov8 := ov7.below b8
    have HB8 := b7.trans (b8.mono (by omega))
    have y4 := row_cell (j := 4) k8 rfl
    have f4 := frozen_of_row w8 mb 4 _ _ k8
    have hs78 := b8.size
    have F9 : Fr (fun i => i = mb) w8 (w8.setCell ⟨mb, 4, none⟩ (.slice A8 n2 c8)) := Fr.set w8 ⟨mb, 4, none⟩ _
    have k9 := heap_setCell_same w8 mb 4 _ _ (.slice A8 n2 c8) k8
    have ov9 := ov8.keepI F9 (fun i hi e => by omega)
    have own9 := own_keepI own8 F9 (fun i hi e => by omega)
    have HB9 := HB8.trans (F9.below (B := mb) (fun i hi => by omega) (by omega))
    have b10 : Below (w8.setCell ⟨mb, 4, none⟩ (.slice A8 n2 c8)).heap.size (w8.setCell ⟨mb, 4, none⟩ (.slice A8 n2 c8)) ((w8.setCell ⟨mb, 4, none⟩ (.slice A8 n2 c8)).alloc (.cells #[.int .i64 0] 2)) := (Below.refl _ _).alloc (Nat.le_refl _) _
    have s10 : SlI ((w8.setCell ⟨mb, 4, none⟩ (.slice A8 n2 c8)).alloc (.cells #[.int .i64 0] 2)) (some ⟨w8.heap.size, 0, none⟩) 1 [0] := sl_lit _ _ _ w8.heap.size 1 1 _ (by simp) rfl rfl
    have hs10 : ((w8.setCell ⟨mb, 4, none⟩ (.slice A8 n2 c8)).alloc (.cells #[.int .i64 0] 2)).heap.size = w8.heap.size + 1 := by simp
    obtain ⟨w10, hw10⟩ : ∃ w10, (w8.setCell ⟨mb, 4, none⟩ (.slice A8 n2 c8)).alloc (.cells #[.int .i64 0] 2) = w10 := ⟨_, rfl⟩
    rw [hw10] at b10 s10 hs10
    have k10 := (b10.block _ (lt_of_block k9)).trans k9
    have ov10 := ov9.below b10
    have own10 := own_below own9 b10
    have HB10 := HB9.trans (b10.mono (by simp; omega))
    have hp10 := HI4.out.over (K2 := fun b => b < p ∨ mb ≤ b ∧ b < w10.heap.size) (w1 := w10) (by rw [HMB.out]; exact HB10) (fun b hb => hb.elim .inl (fun h => .inr ⟨by rw [HMB.out]; exact h.1, h.2⟩))
    have fd10 : FaD w10 (fun b => mb ≤ b ∧ b < w10.heap.size) (f, (A6, n6, c6), (A8, n2, c8)) := fd_of_own ov10 hm6 hc6 own10 hc8 hn2 HR.out (fun i h1 h2 => ⟨by omega, h2⟩) (fun i h1 h2 => ⟨by omega, h2⟩)
    have CT := takeP f A6 n6 c6 A8 n2 c8 (some ⟨w8.heap.size, 0, none⟩) 1 1 [0] hp10 fd10.rrow fd10.ro.1 hc8 hn2 s10 (by omega) (by simp)
    rw [(keepI_take HR.out).1, (keepI_take HR.out).2] at CT
    have CT := Lib.hid CT
    have u0 := row_cell (j := 0) k10 rfl
    have u1 := row_cell (j := 1) k10 rfl
    have u2 := row_cell (j := 2) k10 rfl
    have u3 := row_cell (j := 3) k10 rfl
    have u4 := row_cell (j := 4) k10 rfl
    rw [← hw10] at u0 u1 u2 u3 u4
    obtain ⟨hn6, Ap, np, cp, hnp, sp10⟩ := SpF.of_fd (h := mb) (ho := 0) fd10 k10 rfl rfl
    subst hn6
    obtain ⟨g6, o6, hA6, -⟩ := sp10.ver_at
    subst hA6
    have HSP := Lib.hid sp10
    have HW10 := Lib.hid hw10
    have h410 := HB4.out.trans (HB10.mono (by have := HB4.out.size; omega))
    have HB10' := Lib.hid h410
    have hmb10 := lt_of_block k10
    clear k8 ov8 HB8 F9 k9 ov9 own9 HB9 b10 s10 k10 ov10 own10 HB10 hp10 fd10 hw10 own8 g8 ov7 b7 k7 h47 H7 HS7 HO7 b8 sp10 h410
    go_wp2_with fail
    rw [HW10.out]
    refine CT.out.mono ?_
    rintro e w11 ⟨rfl, h11⟩
    have ks : KSt (fun b => b < p ∨ mb ≤ b ∧ b < w10.heap.size) (fun b => mb ≤ b ∧ b < w10.heap.size) W1 w11 p f mb 0 (some ⟨g6, o6, none⟩) c6 Ap np cp A8 n2 c8 :=
      ⟨h11.here, HSP.out.kept (h11.fr.kept fun i hi hh => hh (.inr (hi.elim (fun e => by omega) (fun h => h)))), h11.outer HB10'.out (fun b hb => .inl (by omega)) (by omega), fun b hb => ⟨.inr hb, by omega⟩⟩
    obtain ⟨K, hK⟩ : ∃ K : Nat → Prop, (fun b => b < p ∨ mb ≤ b ∧ b < w10.heap.size) = K := ⟨_, rfl⟩
    obtain ⟨fp, hfp⟩ : ∃ fp : Nat → Prop, (fun b => mb ≤ b ∧ b < w10.heap.size) = fp := ⟨_, rfl⟩
    have hKp : ∀ b, b < p → K b := fun b hb => by rw [← hK]; exact .inl hb
    rw [hK, hfp] at ks
    have HKP := Lib.hid hKp
    obtain ⟨x3, x4, xp⟩ := ks.heads'
    obtain ⟨⟨uv, hu⟩, hf, hset⟩ := ks.val'
    have HS := Lib.hid (hset (.string ⟨#[115, 112, 111, 105, 108, 116]⟩))
    have i5 : (0 : Int) < ((1 : Nat) : Int) := by decide
    clear ks hset h11 CT x0 x1 x2 f2 f3 y4 f4 u0 u1 u2 u3 u4 hK hfp hKp HSP
    go_wp2
    go_loopw [6] (fun t6 wr => ∃ j : Nat, t6 = .int .i64 (j : Int) ∧ j ≤ np ∧ Hid (KSt K fp W1 wr p f mb 0 (some ⟨g6, o6, none⟩) c6 Ap np cp A8 n2 c8)) (fun t6 _ => np - (intOf t6).toNat)
    case atStart => exact ⟨0, rfl, Nat.zero_le _, HS⟩
    case round =>
      clear x3 x4 xp hu hf HS
      obtain ⟨j, rfl, hj, HK⟩ := hrel
      obtain ⟨x3, x4, xp⟩ := HK.out.heads'
      have j0 : (0 : Int) ≤ (j : Int) := by omega
      by_cases hlt : j < np
      · obtain ⟨gp, op, rfl, ⟨uu, hu⟩, hf, hset⟩ := HK.out.pst hlt
        have HS := Lib.hid (hset (.int .i64 (-1)))
        have j1 : (j : Int) < (np : Int) := by omega
        clear hset
        go_wp2
        go_roundw
        case rel => exact ⟨j + 1, by go_num, by omega, HS⟩
        case measure => simp [intOf]; omega
      · obtain rfl : j = np := by omega
        go_wp2
        go_loopw [7] (fun t7 wr => ∃ k : Nat, t7 = .int .i64 (k : Int) ∧ k ≤ n2 ∧ Hid (KSt K fp W1 wr p f mb 0 (some ⟨g6, o6, none⟩) c6 Ap j cp A8 n2 c8)) (fun t7 _ => n2 - (intOf t7).toNat)
        case atStart => exact ⟨0, rfl, Nat.zero_le _, HK⟩
        case round =>
          clear x3 x4 xp HK
          obtain ⟨k, rfl, hk, HK⟩ := hrel
          obtain ⟨x3, x4, xp⟩ := HK.out.heads'
          have k0 : (0 : Int) ≤ (k : Int) := by omega
          by_cases hlt2 : k < n2
          · obtain ⟨gp, op, rfl, ⟨uu, hu⟩, hf, hset⟩ := HK.out.rte hlt2
            have HS := Lib.hid (hset (.int .i64 (-1)))
            have k1 : (k : Int) < (n2 : Int) := by omega
            clear hset
            go_wp2
            go_roundw
            case rel => exact ⟨k + 1, by go_num, by omega, HS⟩
            case measure => simp [intOf]; omega
          · obtain rfl : k = n2 := by omega
            have HI := Lib.hid HK.out.ip
            have HBB := Lib.hid HK.out.bel
            have CW := Lib.hid (waitsP HI.out (by simp))
            clear HK
            go_wp2_with fail
            refine CW.out.mono ?_
            rintro e w13 ⟨A13, n13, c13, rows13, rfl, hw⟩
            obtain ⟨hn13, hrl⟩ := hw.len (Nat.le_refl _)
            obtain rfl : n13 = 1 := hn13
            obtain ⟨y, rfl⟩ : ∃ y, rows13 = [y] := List.length_eq_one_iff.1 hrl
            have hy1 : y.1 = f := by have := hw.map; simpa using this
            obtain ⟨y1, ⟨A1, n1, c1⟩, A2', n2', c2'⟩ := y
            obtain rfl : y1 = f := hy1
            obtain ⟨g13, cs13, rfl, hg13, bk13, hcs⟩ := blk_of_own hw.own (by omega)
            have fd13 : FaD w13 (fun b => wr.heap.size ≤ b ∧ b < w13.heap.size) (y1, (A1, n1, c1), (A2', n2', c2')) := (hw.fd _ (List.mem_singleton.2 rfl)).mono (fun i h1 h2 => ⟨h2, h1⟩)
            obtain ⟨hn1, Ap', np', cp', hnp', sp13⟩ := SpF.of_fd (h := g13) (ho := 0) fd13 bk13 (hcs 3 _ (by omega) rfl) (hcs 4 _ (by omega) rfl)
            subst hn1
            obtain ⟨g1, o1, hA1, -⟩ := sp13.ver_at
            subst hA1
            have hn2' : n2' * 8 ≤ 140737488351232 := fd13.rl
            have hbz := HBB.out.size
            have hbz2 := hw.below.size
            have ks : KSt (fun b => K b ∨ wr.heap.size ≤ b ∧ b < w13.heap.size) (fun b => wr.heap.size ≤ b ∧ b < w13.heap.size) W1 w13 p y1 g13 0 (some ⟨g1, o1, none⟩) c1 Ap' np' cp' A2' n2' c2' :=
              ⟨HI.out.over hw.below (fun b hb => hb), sp13, HBB.out.trans (hw.below.mono hbz), fun b hb => ⟨.inr hb, by omega⟩⟩
            obtain ⟨K3, hK⟩ : ∃ K3 : Nat → Prop, (fun b => K b ∨ wr.heap.size ≤ b ∧ b < w13.heap.size) = K3 := ⟨_, rfl⟩
            obtain ⟨fp3, hfp⟩ : ∃ fp3 : Nat → Prop, (fun b => wr.heap.size ≤ b ∧ b < w13.heap.size) = fp3 := ⟨_, rfl⟩
            rw [hK, hfp] at ks
            obtain ⟨q3, q4, qp⟩ := ks.heads'
            obtain ⟨⟨uv, hu⟩, hf, hset⟩ := ks.val'
            have HS := Lib.hid (hset (.string ⟨#[115, 112, 111, 105, 108, 116]⟩))
            clear x3 x4 xp ks hset hK hfp hw sp13 fd13 bk13 hcs CW HI HBB
            go_wp2
            go_loopw [9] (fun t9 wr => ∃ k : Nat, t9 = .int .i64 (k : Int) ∧ k ≤ n2' ∧ Hid (KSt K3 fp3 W1 wr p y1 g13 0 (some ⟨g1, o1, none⟩) c1 Ap' np' cp' A2' n2' c2')) (fun t9 _ => n2' - (intOf t9).toNat)
            case atStart => exact ⟨0, rfl, Nat.zero_le _, HS⟩
            case round =>
              clear q3 q4 qp hu hf HS
              obtain ⟨m, rfl, hm, HK⟩ := hrel
              obtain ⟨q3, q4, qp⟩ := HK.out.heads'
              have m0 : (0 : Int) ≤ (m : Int) := by omega
              by_cases hlt3 : m < n2'
              · obtain ⟨gp, op, rfl, ⟨uu, hu⟩, hf, hset⟩ := HK.out.rte hlt3
                have HS := Lib.hid (hset (.int .i64 (-2)))
                have m1 : (m : Int) < (n2' : Int) := by omega
                clear hset
                go_wp2
                go_roundw
                case rel => exact ⟨m + 1, by go_num, by omega, HS⟩
                case measure => simp [intOf]; omega
              · obtain rfl : m = n2' := by omega
                have HI := Lib.hid HK.out.ip
                have HBB := Lib.hid HK.out.bel
                have CW := Lib.hid (waitsP HI.out (by simp))
                clear HK
                go_wp2_with fail
                refine CW.out.mono ?_
                rintro e w15 ⟨A15, n15, c15, rows15, rfl, hw⟩
                obtain ⟨hn15, hrl15⟩ := hw.len (Nat.le_refl _)
                obtain rfl : n15 = 1 := hn15
                obtain ⟨y, rfl⟩ : ∃ y, rows15 = [y] := List.length_eq_one_iff.1 hrl15
                have hy1 : y.1 = y1 := by have := hw.map; simpa using this
                obtain ⟨y2, ⟨A5, n5, c5⟩, A6', n6', c6'⟩ := y
                obtain rfl : y2 = y1 := hy1
                obtain ⟨g15, cs15, rfl, hg15, bk15, hcs⟩ := blk_of_own hw.own (by omega)
                have fd15 := hw.fd _ (List.mem_singleton.2 rfl)
                have hb15 := HBB.out.trans (hw.below.mono HBB.out.size)
                obtain ⟨kf, vf⟩ := HF.out w15 hb15
                have X0 := Ext.cell (bk15.cell (hcs 0 _ (by omega) rfl))
                have X1 := Ext.cell (bk15.cell (hcs 1 _ (by omega) rfl))
                have X2 := Ext.cell (bk15.cell (hcs 2 _ (by omega) rfl))
                have X3 := Ext.cell (bk15.cell (hcs 3 _ (by omega) rfl))
                have X4 := Ext.cell (bk15.cell (hcs 4 _ (by omega) rfl))
                have Y0 := Ext.cell (kf.cell (i := 0) rfl)
                have Y1 := Ext.cell (kf.cell (i := 1) rfl)
                have Y2 := Ext.cell (kf.cell (i := 2) rfl)
                have Y3 := Ext.cell (kf.cell (i := 3) rfl)
                have Y4 := Ext.cell (kf.cell (i := 4) rfl)
                have hn6 : n6' * 8 ≤ 140737488351232 := fd15.rl
                have CS := Lib.hid (fun z : Ext w15 => same_true z.w y2 A5 n5 c5 A6' n6' c6' A n c A2 k c2 (fd15.rrow.below z.below) (Sl.below fd15.ro.1 z.below) (vf.rc.below z.below) (Sl.below vf.ro z.below) (by omega))
                have HB15 := Lib.hid hb15
                clear q3 q4 qp hw bk15 hcs fd15 hb15 kf vf CW HI HBB hg15 hrl15
                go_wp2_with fail
                refine wp_region_ext (by kernel_rfl) (by kernel_rfl) ?_
                repeat (go_big_quiet_step (first | (go_at_call 23; with_reducible exact Calls.ext_of (CS.out _)) | fail))
                refine wpQuiet_nil ?_
                intro w16 hw16
                have HE := Lib.hid (HWW.out.trans ((HB15.out.trans ((ext_end hw16).mono HB15.out.size)).mono HWW.out.size))
                clear hw16 X0 X1 X2 X3 X4 Y0 Y1 Y2 Y3 Y4 CS
                go_wp2
                go_ret
                exact ⟨rfl, HE.out⟩
theorem inboxKeeps_walk (cs : List Value) (x : farSh.T) (W : World) (s0 : Rd W farSh cs x) :
    Calls Try.prog 6 #[.agg cs.toArray] W fun e w' => e = .returned (.bool true) ∧ Below W.heap.size W w' := by
  obtain ⟨A, n, c, A2, n2, c2, rfl, hv, -, -⟩ := fa_open s0
  exact inboxKeeps_in (faOf x) A n c A2 n2 c2 W hv
end Go.Proofs.Ytilagblpamhmkaa
