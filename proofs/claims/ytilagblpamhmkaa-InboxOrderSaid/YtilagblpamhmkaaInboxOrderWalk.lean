/-
  firthlaw18.InboxOrder
-/
import Derived.Test.YtilagblpamhmkaaInboxLaw
import Derived.Test.YtilagblpamhmkaaVectBump
import Derived.Test.YtilagblpamhmkaaMV
namespace Go.Proofs.Ytilagblpamhmkaa
open Go.RowKit
set_option linter.unusedVariables false

theorem bump_may {v : List Int} {s n : Int} (h : nextOf v s = (s, n, 0)) : bumpL v s n = v.set (s.toNat - 1) n ∧ bumpE v s n = 0 := by
  have e : bumpOk v s n = true := by unfold bumpOk; rw [h]; exact decide_eq_true rfl
  unfold bumpL bumpE
  rw [if_pos e, if_pos e]
  exact ⟨rfl, rfl⟩
theorem ver_at5 {w : World} {A : Option Addr} {n : Nat} {f : Fa} (h : SlV w A n f.rc.vers) (h1 : f.rc.vers.length = 1) :
    ∃ b off A2 n2 c2, A = some ⟨b, off, none⟩ ∧ n = 1 ∧ VRow w f.ver A2 n2 c2 ∧ w.cell? ⟨b, off, none⟩ = some (.int .i64 f.ver.s) ∧ w.cell? ⟨b, off + 1, none⟩ = some (.int .i64 f.ver.n) ∧ w.cell? ⟨b, off + 2, none⟩ = some (.slice A2 n2 c2) ∧ w.cell? ⟨b, off + 3, none⟩ = some (.bool f.ver.gone) ∧ w.cell? ⟨b, off + 4, none⟩ = some (.string f.ver.val) := by
  have hl := h.len
  obtain ⟨b, off, v, Ap, np, cp, rfl, hv, hr, c0, c1, c2, c3, c4⟩ := h.at_ (k := 0) (by omega)
  have e : f.ver = v := by
    unfold Fa.ver
    rw [List.headD_eq_head?_getD, List.head?_eq_getElem?, hv]
    rfl
  rw [← e] at hr c0 c1 c3 c4
  simp only [Nat.zero_mul, Nat.add_zero] at c0 c1 c2 c3 c4
  exact ⟨b, off, Ap, np, cp, rfl, by omega, hr, c0, c1, c2, c3, c4⟩
set_option maxHeartbeats 4000000 in
set_option maxRecDepth 100000 in
theorem inboxOrder_walk (a0 : Option Addr) (len0 cap0 : Nat) (x0 : List farSh.T) (a1 : Option Addr) (len1 cap1 : Nat) (l1 : List Int) (a2 : Option Addr) (len2 cap2 : Nat) (l2 : List UInt8) (W : World)
    (t0 : Rd W (.sl 80 farSh) [.slice a0 len0 cap0] x0) (s1 : SlI W a1 len1 l1) (f1 : ∀ x ∈ l1, (Lit.int .i64 x).wf = true) (b1 : len1 ≤ cap1) (z1 : cap1 * 8 ≤ 140737488351232) (s2 : SlB W a2 len2 l2) (b2 : len2 ≤ cap2) (z2 : cap2 * 1 ≤ 140737488351232) :
    Calls Try.prog 3 #[.slice a0 len0 cap0, .slice a1 len1 cap1, .slice a2 len2 cap2] W fun e w' => e = .returned (.bool true) ∧ Below W.heap.size W w' := by
  obtain ⟨hl0, hl80, hfar⟩ := fars_open t0
  have hn1 : len1 ≤ 140737488351232 := by omega
  have HT := Lib.hid (fun (w' : World) (b : Below W.heap.size W w') => And.intro (fars_open (t0.below b)).2.2 (And.intro (show SlI w' a1 len1 l1 from Sl.below s1 b) (show SlB w' a2 len2 l2 from Sl.below s2 b)))
  have HX := Lib.hid hl0
  obtain ⟨xs, hxs⟩ : ∃ xs, x0.map faOf = xs := ⟨_, rfl⟩
  rw [hxs] at HT HX
  have hl2 := SlB.len s2
  have HS1 := Lib.hid (SlI.len s1)
  have HL2 := Lib.hid hl2
  clear t0 s1 f1 s2 hl0 hfar hxs hl2
  have C0 := Lib.hid (awake_any W)
  go_enter Try.func3, Try.ntmps3
  go_wp2_with fail
  refine C0.out.mono ?_
  rintro e w1 ⟨rfl, bw1⟩
  have HB1 := Lib.hid bw1
  have C1 := Lib.hid (refRight_any a1 len1 cap1 l1 w1 (HT.out _ HB1.out).2.1 hn1)
  clear bw1 C0
  go_wp2_with fail
  refine C1.out.mono ?_
  rintro e w2 ⟨rfl, rfl⟩
  cases hr : rightB l1
  · have C2 := Lib.hid (awake_any w1)
    clear C1 hr
    go_wp2_with fail
    refine C2.out.mono ?_
    rintro e w3 ⟨rfl, bw3⟩
    have HB3 := Lib.hid (HB1.out.trans (bw3.mono HB1.out.size))
    clear bw3 C2
    go_wp2
    go_ret
    exact ⟨rfl, HB3.out⟩
  · have HR1 := Lib.hid hr
    have C2 := Lib.hid (newO len0 W w1 W.heap.size HB1.out (Nat.le_refl _) (HT.out _ HB1.out).2.1)
    clear C1 hr
    go_wp2_with fail
    refine C2.out.mono ?_
    rintro e w3 ⟨rfl, h3⟩
    have H3 := Lib.hid h3
    obtain ⟨p, hp⟩ : ∃ p, w1.heap.size = p := ⟨_, rfl⟩
    rw [hp] at H3
    have HP := Lib.hid hp
    clear h3 C2 hp
    go_wp2_with fail
    rw [HP.out]
    go_loopw [8, 9] (fun t8 t9 wr => ∃ (i : Nat) (l : List Fa) (v : List Int) (Av : Option Addr) (nv cv : Nat), t8 = .slice Av nv cv ∧ t9 = .int .i64 (i : Int) ∧ i ≤ len0 ∧ l.length ≤ i ∧ nv = len1 ∧ Hid (OSt W W.heap.size p len0 wr l v Av nv) ∧ Hid (i = len0 → readyI l v = none)) (fun _ t9 _ => len0 - (intOf t9).toNat)
    case atStart => exact ⟨0, [], l1, a1, len1, cap1, rfl, rfl, Nat.zero_le _, Nat.le_refl _, rfl, H3, fun _ => rfl⟩
    case round =>
      obtain ⟨i, l, v, Av, nv, cv, rfl, rfl, hi, hli, rfl, HO, HN⟩ := hrel
      by_cases hlt : i < len0
      · have hnl : ¬ (i = len0) := by omega
        obtain ⟨g, off, f, A1, n1, c1, A2, n2, c2, rfl, hxf, hc, hfv, -⟩ := (HT.out _ HO.out.below_).1 i hlt
        have y0 : wr.cell? ⟨g, off + i * 5, none⟩ = some (.int .i64 f.src) := hc 0 _ (by omega) rfl
        have y1 := hc 1 _ (by omega) rfl
        have y2 := hc 2 _ (by omega) rfl
        have y3 := hc 3 _ (by omega) rfl
        have y4 := hc 4 _ (by omega) rfl
        have i1 : (0 : Int) ≤ (i : Int) := by omega
        have i2 : (i : Int) < (len0 : Int) := by omega
        have CT := Lib.hid (takeO f A1 n1 c1 A2 n2 c2 cv HO.out hfv (by omega) (by omega))
        have hll := takeI_len len0 l f v
        obtain ⟨l', hl'⟩ : ∃ l', takeI len0 l f v = l' := ⟨_, rfl⟩
        rw [hl'] at CT hll
        clear hxf hc hfv hl' HN
        go_wp2_with fail
        refine CT.out.mono ?_
        rintro e w4 ⟨rfl, h4⟩
        have H4 := Lib.hid h4
        have hlen' : l'.length ≤ i + 1 := by omega
        clear h4 CT y0 y1 y2 y3 y4 HO hll hli
        by_cases hbt : i < len2
        · obtain ⟨gb, ob, cc, rfl, hcc, -, yb⟩ := (HT.out _ H4.out.below_).2.2.at_ hbt
          have i3 : (i : Int) < (len2 : Int) := by omega
          by_cases hlast : i + 1 = len0
          · have q1 : ((i : Int) == (len0 : Int) - 1) = true := beq_iff_eq.2 (by omega)
            go_wp2_with fail
            go_loopw [8, 10] (fun t8 t10 wr => ∃ (m : Int) (l : List Fa) (v : List Int) (Av : Option Addr) (cv : Nat), t8 = .slice Av nv cv ∧ t10 = .int .i64 m ∧ m ≤ (len0 : Int) + 4 ∧ l.length ≤ i + 1 ∧ Hid (OSt W W.heap.size p len0 wr l v Av nv) ∧ Hid (i + 1 = len0 → (l.length : Int) < m)) (fun _ t10 _ => (intOf t10).toNat)
            case atStart => exact ⟨(len0 : Int) + 1, l', v, Av, cv, rfl, rfl, by omega, hlen', H4, fun hh => by omega⟩
            case round =>
              obtain ⟨m, l3, v3, Av3, cv3, rfl, rfl, hm4, hl3, HO3, HM⟩ := hrel
              by_cases hm : 0 < m
              · cases hr : readyI l3 v3 with
                | none =>
                  have CR := Lib.hid (readyO_none cv3 HO3.out (by omega) (by omega) hr)
                  have HRN := Lib.hid hr
                  clear hr
                  go_wp2_with fail
                  refine CR.out.mono ?_
                  rintro e w5 ⟨rfl, h5⟩
                  have H5 := Lib.hid (h5.grow ((Below.refl _ _).alloc (Nat.le_refl _) (.cells #[.int .i64 0, .int .i64 0, .string ⟨#[]⟩, .slice none 0 0, .slice none 0 0] 35)))
                  clear h5 CR
                  go_wp2
                  go_roundw
                  case rel => exact ⟨i + 1, l3, v3, Av3, nv, cv3, rfl, by go_num, by omega, hl3, rfl, H5, fun _ => HRN.out⟩
                  case measure => simp [intOf]; omega
                | some k =>
                  obtain ⟨x, hx, hmay, hkl⟩ := readyI_lt hr
                  obtain ⟨hnx, hho⟩ := may_true hmay
                  have hcv := next_ncov hnx
                  have CR := Lib.hid (readyO_some cv3 HO3.out (by omega) (by omega) hr hx)
                  have HNX := Lib.hid (And.intro hnx (And.intro hho hcv))
                  have hel : (l3.eraseIdx k).length = l3.length - 1 := List.length_eraseIdx_of_lt hkl
                  have HEL := Lib.hid hel
                  have HVL := Lib.hid (SlI.len HO3.out.sl)
                  clear hr hx hmay hnx hho hcv hel
                  go_wp2_with fail
                  refine CR.out.mono ?_
                  rintro e w5 ⟨A, n, c, A2, n2, c2, rfl, hsv, hrf, h5⟩
                  obtain ⟨bq, oq, Ap, np, cp, rfl, rfl, e0, e1, e2, hvr⟩ := ver_at hsv (rightF_rec hrf).2
                  have k6 := heap_alloc_new w5 (.cells #[.int .i64 x.src, .int .i64 x.seq, .string x.rc.key, .slice (some ⟨bq, oq, none⟩) 1 c, .slice A2 n2 c2] 35)
                  have b6 : Below w5.heap.size w5 (w5.alloc (.cells #[.int .i64 x.src, .int .i64 x.seq, .string x.rc.key, .slice (some ⟨bq, oq, none⟩) 1 c, .slice A2 n2 c2] 35)) := (Below.refl _ _).alloc (Nat.le_refl _) _
                  have hs6 : (w5.alloc (.cells #[.int .i64 x.src, .int .i64 x.seq, .string x.rc.key, .slice (some ⟨bq, oq, none⟩) 1 c, .slice A2 n2 c2] 35)).heap.size = w5.heap.size + 1 := by simp
                  have o3 := row_cell (j := 3) k6 rfl
                  have u0 := cell_up e0 b6
                  have u1 := cell_up e1 b6
                  obtain ⟨w6, hw6⟩ : ∃ w6, w5.alloc (.cells #[.int .i64 x.src, .int .i64 x.seq, .string x.rc.key, .slice (some ⟨bq, oq, none⟩) 1 c, .slice A2 n2 c2] 35) = w6 := ⟨_, rfl⟩
                  rw [hw6] at k6 b6 hs6
                  have b7 : Below w6.heap.size w6 (w6.alloc (.cells #[.int .i64 x.ver.s, .int .i64 x.ver.n] 39)) := (Below.refl _ _).alloc (Nat.le_refl _) _
                  have k7 := heap_alloc_new w6 (.cells #[.int .i64 x.ver.s, .int .i64 x.ver.n] 39)
                  rw [hs6] at k7
                  have k67 := (b7.block _ (by omega)).trans k6
                  have e2' := cell_up (cell_up e2 b6) (b7.mono (by omega))
                  have hvr' := (hvr.below b6).below (b7.mono (Nat.le_refl _))
                  obtain ⟨w7, hw7⟩ : ∃ w7, w6.alloc (.cells #[.int .i64 x.ver.s, .int .i64 x.ver.n] 39) = w7 := ⟨_, rfl⟩
                  rw [hw7] at b7 k7 k67 e2' hvr'
                  have H7 := Lib.hid ((h5.grow b6).grow b7)
                  have HSS := Lib.hid (fun (W' : World) (bl : Below w7.heap.size w7 W') => And.intro ((bl.cell (p := ⟨w5.heap.size, 3, none⟩) (lt_of_block k67)).trans (row_cell (j := 3) k67 rfl)) (And.intro (cell_up e2' bl) (And.intro ((bl.cell (p := ⟨w5.heap.size + 1, 0, none⟩) (lt_of_block k7)).trans (row_cell (j := 0) k7 rfl)) (And.intro ((bl.cell (p := ⟨w5.heap.size + 1, 1, none⟩) (lt_of_block k7)).trans (row_cell (j := 1) k7 rfl)) (hvr'.below bl)))))
                  have hwf := bounds_i64 hvr.wf.1
                  have HWF := Lib.hid hwf
                  have CB0 := refBump_any Av3 nv cv3 v3 x.ver.s x.ver.n w7 H7.out.sl (by omega)
                  obtain ⟨hb1, hb2⟩ := bump_may HNX.out.1
                  rw [hb1, hb2] at CB0
                  have CB := Lib.hid CB0
                  have HW6 := Lib.hid hw6
                  have HW7 := Lib.hid hw7
                  obtain ⟨m0, -, d0, d1, -⟩ := HSS.out w7 (Below.refl _ _)
                  clear hsv hrf h5 e0 e1 e2 hvr k6 b6 hs6 hw6 b7 k7 k67 e2' hvr' hw7 hwf CB0 hb1 hb2 CR
                  go_wp2_with fail
                  rw [HW6.out, HW7.out]
                  go_wp2_with fail
                  refine CB.out.mono ?_
                  rintro e w8 ⟨A', n', c', rfl, s8, hc8, o8, b8⟩
                  have hn' : n' = nv := by have h1 := SlI.len s8; have h2 := HVL.out; rw [List.length_set] at h1; omega
                  subst hn'
                  have H8 := Lib.hid (H7.out.newv (Nat.le_refl _) b8 o8)
                  have HB8 := Lib.hid b8
                  obtain ⟨m0, m1, d0, d1, hvr8⟩ := HSS.out w8 b8
                  have CH := Lib.hid (fun (W' : World) (bl : Below w8.heap.size w8 W') => refHolds_any Av3 n' cv3 v3 Ap np cp x.ver.past W' (Sl.below (Sl.below H7.out.sl HB8.out) bl) (by omega) (Sl.below hvr8.sl bl) hvr8.n9 hvr8.wfp)
                  have CC := Lib.hid (fun (W' : World) (bl : Below w8.heap.size w8 W') => refCovers_any Av3 n' cv3 v3 x.ver.s x.ver.n W' (Sl.below (Sl.below H7.out.sl HB8.out) bl) (by omega) HWF.out.1 HWF.out.2)
                  have i5 : (0 : Int) < ((1 : Nat) : Int) := by decide
                  clear s8 hc8 o8 b8 hvr8 CB
                  go_wp2_with fail
                  refine (CH.out _ (Below.refl _ _)).mono ?_
                  rintro e w9 ⟨rfl, b9⟩
                  rw [HNX.out.2.1]
                  obtain ⟨m0, m1, d0, d1, -⟩ := HSS.out w9 (HB8.out.trans (b9.mono HB8.out.size))
                  have H9 := Lib.hid (H8.out.grow b9)
                  have HB9 := Lib.hid b9
                  clear b9 CH H8
                  go_wp2_with fail
                  refine (CC.out _ HB9.out).mono ?_
                  rintro e w10 ⟨rfl, b10⟩
                  rw [HNX.out.2.2]
                  have H10 := Lib.hid (H9.out.grow b10)
                  clear b10 CC H9 HB9 HB8 HSS H7
                  go_wp2
                  go_roundw
                  case rel => exact ⟨m - 1, l3.eraseIdx k, _, A', c', rfl, by go_num, by omega, by have := HEL.out; omega, H10, fun hh => by have h1 := HM.out hh; have h2 := HEL.out; omega⟩
                  case measure => simp [intOf]; omega
              · have HME := Lib.hid (fun (hh : i + 1 = len0) => show readyI l3 v3 = none from absurd (HM.out hh) (by omega))
                go_wp2
                go_roundw
                case rel => exact ⟨i + 1, l3, v3, Av3, nv, cv3, rfl, by go_num, by omega, hl3, rfl, HO3, HME⟩
                case measure => simp [intOf]; omega
          · have q1 : ((i : Int) == (len0 : Int) - 1) = false := beq_eq_false_iff_ne.2 (by omega)
            go_wp2_with fail
            go_loopw [8, 10] (fun t8 t10 wr => ∃ (m : Int) (l : List Fa) (v : List Int) (Av : Option Addr) (cv : Nat), t8 = .slice Av nv cv ∧ t10 = .int .i64 m ∧ m ≤ (len0 : Int) + 4 ∧ l.length ≤ i + 1 ∧ Hid (OSt W W.heap.size p len0 wr l v Av nv) ∧ Hid (i + 1 = len0 → (l.length : Int) < m)) (fun _ t10 _ => (intOf t10).toNat)
            case atStart => exact ⟨(cc : Int) % 4, l', v, Av, cv, rfl, rfl, by omega, hlen', H4, fun hh => by omega⟩
            case round =>
              obtain ⟨m, l3, v3, Av3, cv3, rfl, rfl, hm4, hl3, HO3, HM⟩ := hrel
              by_cases hm : 0 < m
              · cases hr : readyI l3 v3 with
                | none =>
                  have CR := Lib.hid (readyO_none cv3 HO3.out (by omega) (by omega) hr)
                  have HRN := Lib.hid hr
                  clear hr
                  go_wp2_with fail
                  refine CR.out.mono ?_
                  rintro e w5 ⟨rfl, h5⟩
                  have H5 := Lib.hid (h5.grow ((Below.refl _ _).alloc (Nat.le_refl _) (.cells #[.int .i64 0, .int .i64 0, .string ⟨#[]⟩, .slice none 0 0, .slice none 0 0] 35)))
                  clear h5 CR
                  go_wp2
                  go_roundw
                  case rel => exact ⟨i + 1, l3, v3, Av3, nv, cv3, rfl, by go_num, by omega, hl3, rfl, H5, fun _ => HRN.out⟩
                  case measure => simp [intOf]; omega
                | some k =>
                  obtain ⟨x, hx, hmay, hkl⟩ := readyI_lt hr
                  obtain ⟨hnx, hho⟩ := may_true hmay
                  have hcv := next_ncov hnx
                  have CR := Lib.hid (readyO_some cv3 HO3.out (by omega) (by omega) hr hx)
                  have HNX := Lib.hid (And.intro hnx (And.intro hho hcv))
                  have hel : (l3.eraseIdx k).length = l3.length - 1 := List.length_eraseIdx_of_lt hkl
                  have HEL := Lib.hid hel
                  have HVL := Lib.hid (SlI.len HO3.out.sl)
                  clear hr hx hmay hnx hho hcv hel
                  go_wp2_with fail
                  refine CR.out.mono ?_
                  rintro e w5 ⟨A, n, c, A2, n2, c2, rfl, hsv, hrf, h5⟩
                  obtain ⟨bq, oq, Ap, np, cp, rfl, rfl, e0, e1, e2, hvr⟩ := ver_at hsv (rightF_rec hrf).2
                  have k6 := heap_alloc_new w5 (.cells #[.int .i64 x.src, .int .i64 x.seq, .string x.rc.key, .slice (some ⟨bq, oq, none⟩) 1 c, .slice A2 n2 c2] 35)
                  have b6 : Below w5.heap.size w5 (w5.alloc (.cells #[.int .i64 x.src, .int .i64 x.seq, .string x.rc.key, .slice (some ⟨bq, oq, none⟩) 1 c, .slice A2 n2 c2] 35)) := (Below.refl _ _).alloc (Nat.le_refl _) _
                  have hs6 : (w5.alloc (.cells #[.int .i64 x.src, .int .i64 x.seq, .string x.rc.key, .slice (some ⟨bq, oq, none⟩) 1 c, .slice A2 n2 c2] 35)).heap.size = w5.heap.size + 1 := by simp
                  have o3 := row_cell (j := 3) k6 rfl
                  have u0 := cell_up e0 b6
                  have u1 := cell_up e1 b6
                  obtain ⟨w6, hw6⟩ : ∃ w6, w5.alloc (.cells #[.int .i64 x.src, .int .i64 x.seq, .string x.rc.key, .slice (some ⟨bq, oq, none⟩) 1 c, .slice A2 n2 c2] 35) = w6 := ⟨_, rfl⟩
                  rw [hw6] at k6 b6 hs6
                  have b7 : Below w6.heap.size w6 (w6.alloc (.cells #[.int .i64 x.ver.s, .int .i64 x.ver.n] 39)) := (Below.refl _ _).alloc (Nat.le_refl _) _
                  have k7 := heap_alloc_new w6 (.cells #[.int .i64 x.ver.s, .int .i64 x.ver.n] 39)
                  rw [hs6] at k7
                  have k67 := (b7.block _ (by omega)).trans k6
                  have e2' := cell_up (cell_up e2 b6) (b7.mono (by omega))
                  have hvr' := (hvr.below b6).below (b7.mono (Nat.le_refl _))
                  obtain ⟨w7, hw7⟩ : ∃ w7, w6.alloc (.cells #[.int .i64 x.ver.s, .int .i64 x.ver.n] 39) = w7 := ⟨_, rfl⟩
                  rw [hw7] at b7 k7 k67 e2' hvr'
                  have H7 := Lib.hid ((h5.grow b6).grow b7)
                  have HSS := Lib.hid (fun (W' : World) (bl : Below w7.heap.size w7 W') => And.intro ((bl.cell (p := ⟨w5.heap.size, 3, none⟩) (lt_of_block k67)).trans (row_cell (j := 3) k67 rfl)) (And.intro (cell_up e2' bl) (And.intro ((bl.cell (p := ⟨w5.heap.size + 1, 0, none⟩) (lt_of_block k7)).trans (row_cell (j := 0) k7 rfl)) (And.intro ((bl.cell (p := ⟨w5.heap.size + 1, 1, none⟩) (lt_of_block k7)).trans (row_cell (j := 1) k7 rfl)) (hvr'.below bl)))))
                  have hwf := bounds_i64 hvr.wf.1
                  have HWF := Lib.hid hwf
                  have CB0 := refBump_any Av3 nv cv3 v3 x.ver.s x.ver.n w7 H7.out.sl (by omega)
                  obtain ⟨hb1, hb2⟩ := bump_may HNX.out.1
                  rw [hb1, hb2] at CB0
                  have CB := Lib.hid CB0
                  have HW6 := Lib.hid hw6
                  have HW7 := Lib.hid hw7
                  obtain ⟨m0, -, d0, d1, -⟩ := HSS.out w7 (Below.refl _ _)
                  clear hsv hrf h5 e0 e1 e2 hvr k6 b6 hs6 hw6 b7 k7 k67 e2' hvr' hw7 hwf CB0 hb1 hb2 CR
                  go_wp2_with fail
                  rw [HW6.out, HW7.out]
                  go_wp2_with fail
                  refine CB.out.mono ?_
                  rintro e w8 ⟨A', n', c', rfl, s8, hc8, o8, b8⟩
                  have hn' : n' = nv := by have h1 := SlI.len s8; have h2 := HVL.out; rw [List.length_set] at h1; omega
                  subst hn'
                  have H8 := Lib.hid (H7.out.newv (Nat.le_refl _) b8 o8)
                  have HB8 := Lib.hid b8
                  obtain ⟨m0, m1, d0, d1, hvr8⟩ := HSS.out w8 b8
                  have CH := Lib.hid (fun (W' : World) (bl : Below w8.heap.size w8 W') => refHolds_any Av3 n' cv3 v3 Ap np cp x.ver.past W' (Sl.below (Sl.below H7.out.sl HB8.out) bl) (by omega) (Sl.below hvr8.sl bl) hvr8.n9 hvr8.wfp)
                  have CC := Lib.hid (fun (W' : World) (bl : Below w8.heap.size w8 W') => refCovers_any Av3 n' cv3 v3 x.ver.s x.ver.n W' (Sl.below (Sl.below H7.out.sl HB8.out) bl) (by omega) HWF.out.1 HWF.out.2)
                  have i5 : (0 : Int) < ((1 : Nat) : Int) := by decide
                  clear s8 hc8 o8 b8 hvr8 CB
                  go_wp2_with fail
                  refine (CH.out _ (Below.refl _ _)).mono ?_
                  rintro e w9 ⟨rfl, b9⟩
                  rw [HNX.out.2.1]
                  obtain ⟨m0, m1, d0, d1, -⟩ := HSS.out w9 (HB8.out.trans (b9.mono HB8.out.size))
                  have H9 := Lib.hid (H8.out.grow b9)
                  have HB9 := Lib.hid b9
                  clear b9 CH H8
                  go_wp2_with fail
                  refine (CC.out _ HB9.out).mono ?_
                  rintro e w10 ⟨rfl, b10⟩
                  rw [HNX.out.2.2]
                  have H10 := Lib.hid (H9.out.grow b10)
                  clear b10 CC H9 HB9 HB8 HSS H7
                  go_wp2
                  go_roundw
                  case rel => exact ⟨m - 1, l3.eraseIdx k, _, A', c', rfl, by go_num, by omega, by have := HEL.out; omega, H10, fun hh => by have h1 := HM.out hh; have h2 := HEL.out; omega⟩
                  case measure => simp [intOf]; omega
              · have HME := Lib.hid (fun (hh : i + 1 = len0) => show readyI l3 v3 = none from absurd (HM.out hh) (by omega))
                go_wp2
                go_roundw
                case rel => exact ⟨i + 1, l3, v3, Av3, nv, cv3, rfl, by go_num, by omega, hl3, rfl, HO3, HME⟩
                case measure => simp [intOf]; omega
        · have i3 : ¬ (i : Int) < (len2 : Int) := by omega
          by_cases hlast : i + 1 = len0
          · have q1 : ((i : Int) == (len0 : Int) - 1) = true := beq_iff_eq.2 (by omega)
            go_wp2_with fail
            go_loopw [8, 10] (fun t8 t10 wr => ∃ (m : Int) (l : List Fa) (v : List Int) (Av : Option Addr) (cv : Nat), t8 = .slice Av nv cv ∧ t10 = .int .i64 m ∧ m ≤ (len0 : Int) + 4 ∧ l.length ≤ i + 1 ∧ Hid (OSt W W.heap.size p len0 wr l v Av nv) ∧ Hid (i + 1 = len0 → (l.length : Int) < m)) (fun _ t10 _ => (intOf t10).toNat)
            case atStart => exact ⟨(len0 : Int) + 1, l', v, Av, cv, rfl, rfl, by omega, hlen', H4, fun hh => by omega⟩
            case round =>
              obtain ⟨m, l3, v3, Av3, cv3, rfl, rfl, hm4, hl3, HO3, HM⟩ := hrel
              by_cases hm : 0 < m
              · cases hr : readyI l3 v3 with
                | none =>
                  have CR := Lib.hid (readyO_none cv3 HO3.out (by omega) (by omega) hr)
                  have HRN := Lib.hid hr
                  clear hr
                  go_wp2_with fail
                  refine CR.out.mono ?_
                  rintro e w5 ⟨rfl, h5⟩
                  have H5 := Lib.hid (h5.grow ((Below.refl _ _).alloc (Nat.le_refl _) (.cells #[.int .i64 0, .int .i64 0, .string ⟨#[]⟩, .slice none 0 0, .slice none 0 0] 35)))
                  clear h5 CR
                  go_wp2
                  go_roundw
                  case rel => exact ⟨i + 1, l3, v3, Av3, nv, cv3, rfl, by go_num, by omega, hl3, rfl, H5, fun _ => HRN.out⟩
                  case measure => simp [intOf]; omega
                | some k =>
                  obtain ⟨x, hx, hmay, hkl⟩ := readyI_lt hr
                  obtain ⟨hnx, hho⟩ := may_true hmay
                  have hcv := next_ncov hnx
                  have CR := Lib.hid (readyO_some cv3 HO3.out (by omega) (by omega) hr hx)
                  have HNX := Lib.hid (And.intro hnx (And.intro hho hcv))
                  have hel : (l3.eraseIdx k).length = l3.length - 1 := List.length_eraseIdx_of_lt hkl
                  have HEL := Lib.hid hel
                  have HVL := Lib.hid (SlI.len HO3.out.sl)
                  clear hr hx hmay hnx hho hcv hel
                  go_wp2_with fail
                  refine CR.out.mono ?_
                  rintro e w5 ⟨A, n, c, A2, n2, c2, rfl, hsv, hrf, h5⟩
                  obtain ⟨bq, oq, Ap, np, cp, rfl, rfl, e0, e1, e2, hvr⟩ := ver_at hsv (rightF_rec hrf).2
                  have k6 := heap_alloc_new w5 (.cells #[.int .i64 x.src, .int .i64 x.seq, .string x.rc.key, .slice (some ⟨bq, oq, none⟩) 1 c, .slice A2 n2 c2] 35)
                  have b6 : Below w5.heap.size w5 (w5.alloc (.cells #[.int .i64 x.src, .int .i64 x.seq, .string x.rc.key, .slice (some ⟨bq, oq, none⟩) 1 c, .slice A2 n2 c2] 35)) := (Below.refl _ _).alloc (Nat.le_refl _) _
                  have hs6 : (w5.alloc (.cells #[.int .i64 x.src, .int .i64 x.seq, .string x.rc.key, .slice (some ⟨bq, oq, none⟩) 1 c, .slice A2 n2 c2] 35)).heap.size = w5.heap.size + 1 := by simp
                  have o3 := row_cell (j := 3) k6 rfl
                  have u0 := cell_up e0 b6
                  have u1 := cell_up e1 b6
                  obtain ⟨w6, hw6⟩ : ∃ w6, w5.alloc (.cells #[.int .i64 x.src, .int .i64 x.seq, .string x.rc.key, .slice (some ⟨bq, oq, none⟩) 1 c, .slice A2 n2 c2] 35) = w6 := ⟨_, rfl⟩
                  rw [hw6] at k6 b6 hs6
                  have b7 : Below w6.heap.size w6 (w6.alloc (.cells #[.int .i64 x.ver.s, .int .i64 x.ver.n] 39)) := (Below.refl _ _).alloc (Nat.le_refl _) _
                  have k7 := heap_alloc_new w6 (.cells #[.int .i64 x.ver.s, .int .i64 x.ver.n] 39)
                  rw [hs6] at k7
                  have k67 := (b7.block _ (by omega)).trans k6
                  have e2' := cell_up (cell_up e2 b6) (b7.mono (by omega))
                  have hvr' := (hvr.below b6).below (b7.mono (Nat.le_refl _))
                  obtain ⟨w7, hw7⟩ : ∃ w7, w6.alloc (.cells #[.int .i64 x.ver.s, .int .i64 x.ver.n] 39) = w7 := ⟨_, rfl⟩
                  rw [hw7] at b7 k7 k67 e2' hvr'
                  have H7 := Lib.hid ((h5.grow b6).grow b7)
                  have HSS := Lib.hid (fun (W' : World) (bl : Below w7.heap.size w7 W') => And.intro ((bl.cell (p := ⟨w5.heap.size, 3, none⟩) (lt_of_block k67)).trans (row_cell (j := 3) k67 rfl)) (And.intro (cell_up e2' bl) (And.intro ((bl.cell (p := ⟨w5.heap.size + 1, 0, none⟩) (lt_of_block k7)).trans (row_cell (j := 0) k7 rfl)) (And.intro ((bl.cell (p := ⟨w5.heap.size + 1, 1, none⟩) (lt_of_block k7)).trans (row_cell (j := 1) k7 rfl)) (hvr'.below bl)))))
                  have hwf := bounds_i64 hvr.wf.1
                  have HWF := Lib.hid hwf
                  have CB0 := refBump_any Av3 nv cv3 v3 x.ver.s x.ver.n w7 H7.out.sl (by omega)
                  obtain ⟨hb1, hb2⟩ := bump_may HNX.out.1
                  rw [hb1, hb2] at CB0
                  have CB := Lib.hid CB0
                  have HW6 := Lib.hid hw6
                  have HW7 := Lib.hid hw7
                  obtain ⟨m0, -, d0, d1, -⟩ := HSS.out w7 (Below.refl _ _)
                  clear hsv hrf h5 e0 e1 e2 hvr k6 b6 hs6 hw6 b7 k7 k67 e2' hvr' hw7 hwf CB0 hb1 hb2 CR
                  go_wp2_with fail
                  rw [HW6.out, HW7.out]
                  go_wp2_with fail
                  refine CB.out.mono ?_
                  rintro e w8 ⟨A', n', c', rfl, s8, hc8, o8, b8⟩
                  have hn' : n' = nv := by have h1 := SlI.len s8; have h2 := HVL.out; rw [List.length_set] at h1; omega
                  subst hn'
                  have H8 := Lib.hid (H7.out.newv (Nat.le_refl _) b8 o8)
                  have HB8 := Lib.hid b8
                  obtain ⟨m0, m1, d0, d1, hvr8⟩ := HSS.out w8 b8
                  have CH := Lib.hid (fun (W' : World) (bl : Below w8.heap.size w8 W') => refHolds_any Av3 n' cv3 v3 Ap np cp x.ver.past W' (Sl.below (Sl.below H7.out.sl HB8.out) bl) (by omega) (Sl.below hvr8.sl bl) hvr8.n9 hvr8.wfp)
                  have CC := Lib.hid (fun (W' : World) (bl : Below w8.heap.size w8 W') => refCovers_any Av3 n' cv3 v3 x.ver.s x.ver.n W' (Sl.below (Sl.below H7.out.sl HB8.out) bl) (by omega) HWF.out.1 HWF.out.2)
                  have i5 : (0 : Int) < ((1 : Nat) : Int) := by decide
                  clear s8 hc8 o8 b8 hvr8 CB
                  go_wp2_with fail
                  refine (CH.out _ (Below.refl _ _)).mono ?_
                  rintro e w9 ⟨rfl, b9⟩
                  rw [HNX.out.2.1]
                  obtain ⟨m0, m1, d0, d1, -⟩ := HSS.out w9 (HB8.out.trans (b9.mono HB8.out.size))
                  have H9 := Lib.hid (H8.out.grow b9)
                  have HB9 := Lib.hid b9
                  clear b9 CH H8
                  go_wp2_with fail
                  refine (CC.out _ HB9.out).mono ?_
                  rintro e w10 ⟨rfl, b10⟩
                  rw [HNX.out.2.2]
                  have H10 := Lib.hid (H9.out.grow b10)
                  clear b10 CC H9 HB9 HB8 HSS H7
                  go_wp2
                  go_roundw
                  case rel => exact ⟨m - 1, l3.eraseIdx k, _, A', c', rfl, by go_num, by omega, by have := HEL.out; omega, H10, fun hh => by have h1 := HM.out hh; have h2 := HEL.out; omega⟩
                  case measure => simp [intOf]; omega
              · have HME := Lib.hid (fun (hh : i + 1 = len0) => show readyI l3 v3 = none from absurd (HM.out hh) (by omega))
                go_wp2
                go_roundw
                case rel => exact ⟨i + 1, l3, v3, Av3, nv, cv3, rfl, by go_num, by omega, hl3, rfl, HO3, HME⟩
                case measure => simp [intOf]; omega
          · have q1 : ((i : Int) == (len0 : Int) - 1) = false := beq_eq_false_iff_ne.2 (by omega)
            go_wp2_with fail
            go_loopw [8, 10] (fun t8 t10 wr => ∃ (m : Int) (l : List Fa) (v : List Int) (Av : Option Addr) (cv : Nat), t8 = .slice Av nv cv ∧ t10 = .int .i64 m ∧ m ≤ (len0 : Int) + 4 ∧ l.length ≤ i + 1 ∧ Hid (OSt W W.heap.size p len0 wr l v Av nv) ∧ Hid (i + 1 = len0 → (l.length : Int) < m)) (fun _ t10 _ => (intOf t10).toNat)
            case atStart => exact ⟨1, l', v, Av, cv, rfl, rfl, by omega, hlen', H4, fun hh => by omega⟩
            case round =>
              obtain ⟨m, l3, v3, Av3, cv3, rfl, rfl, hm4, hl3, HO3, HM⟩ := hrel
              by_cases hm : 0 < m
              · cases hr : readyI l3 v3 with
                | none =>
                  have CR := Lib.hid (readyO_none cv3 HO3.out (by omega) (by omega) hr)
                  have HRN := Lib.hid hr
                  clear hr
                  go_wp2_with fail
                  refine CR.out.mono ?_
                  rintro e w5 ⟨rfl, h5⟩
                  have H5 := Lib.hid (h5.grow ((Below.refl _ _).alloc (Nat.le_refl _) (.cells #[.int .i64 0, .int .i64 0, .string ⟨#[]⟩, .slice none 0 0, .slice none 0 0] 35)))
                  clear h5 CR
                  go_wp2
                  go_roundw
                  case rel => exact ⟨i + 1, l3, v3, Av3, nv, cv3, rfl, by go_num, by omega, hl3, rfl, H5, fun _ => HRN.out⟩
                  case measure => simp [intOf]; omega
                | some k =>
                  obtain ⟨x, hx, hmay, hkl⟩ := readyI_lt hr
                  obtain ⟨hnx, hho⟩ := may_true hmay
                  have hcv := next_ncov hnx
                  have CR := Lib.hid (readyO_some cv3 HO3.out (by omega) (by omega) hr hx)
                  have HNX := Lib.hid (And.intro hnx (And.intro hho hcv))
                  have hel : (l3.eraseIdx k).length = l3.length - 1 := List.length_eraseIdx_of_lt hkl
                  have HEL := Lib.hid hel
                  have HVL := Lib.hid (SlI.len HO3.out.sl)
                  clear hr hx hmay hnx hho hcv hel
                  go_wp2_with fail
                  refine CR.out.mono ?_
                  rintro e w5 ⟨A, n, c, A2, n2, c2, rfl, hsv, hrf, h5⟩
                  obtain ⟨bq, oq, Ap, np, cp, rfl, rfl, e0, e1, e2, hvr⟩ := ver_at hsv (rightF_rec hrf).2
                  have k6 := heap_alloc_new w5 (.cells #[.int .i64 x.src, .int .i64 x.seq, .string x.rc.key, .slice (some ⟨bq, oq, none⟩) 1 c, .slice A2 n2 c2] 35)
                  have b6 : Below w5.heap.size w5 (w5.alloc (.cells #[.int .i64 x.src, .int .i64 x.seq, .string x.rc.key, .slice (some ⟨bq, oq, none⟩) 1 c, .slice A2 n2 c2] 35)) := (Below.refl _ _).alloc (Nat.le_refl _) _
                  have hs6 : (w5.alloc (.cells #[.int .i64 x.src, .int .i64 x.seq, .string x.rc.key, .slice (some ⟨bq, oq, none⟩) 1 c, .slice A2 n2 c2] 35)).heap.size = w5.heap.size + 1 := by simp
                  have o3 := row_cell (j := 3) k6 rfl
                  have u0 := cell_up e0 b6
                  have u1 := cell_up e1 b6
                  obtain ⟨w6, hw6⟩ : ∃ w6, w5.alloc (.cells #[.int .i64 x.src, .int .i64 x.seq, .string x.rc.key, .slice (some ⟨bq, oq, none⟩) 1 c, .slice A2 n2 c2] 35) = w6 := ⟨_, rfl⟩
                  rw [hw6] at k6 b6 hs6
                  have b7 : Below w6.heap.size w6 (w6.alloc (.cells #[.int .i64 x.ver.s, .int .i64 x.ver.n] 39)) := (Below.refl _ _).alloc (Nat.le_refl _) _
                  have k7 := heap_alloc_new w6 (.cells #[.int .i64 x.ver.s, .int .i64 x.ver.n] 39)
                  rw [hs6] at k7
                  have k67 := (b7.block _ (by omega)).trans k6
                  have e2' := cell_up (cell_up e2 b6) (b7.mono (by omega))
                  have hvr' := (hvr.below b6).below (b7.mono (Nat.le_refl _))
                  obtain ⟨w7, hw7⟩ : ∃ w7, w6.alloc (.cells #[.int .i64 x.ver.s, .int .i64 x.ver.n] 39) = w7 := ⟨_, rfl⟩
                  rw [hw7] at b7 k7 k67 e2' hvr'
                  have H7 := Lib.hid ((h5.grow b6).grow b7)
                  have HSS := Lib.hid (fun (W' : World) (bl : Below w7.heap.size w7 W') => And.intro ((bl.cell (p := ⟨w5.heap.size, 3, none⟩) (lt_of_block k67)).trans (row_cell (j := 3) k67 rfl)) (And.intro (cell_up e2' bl) (And.intro ((bl.cell (p := ⟨w5.heap.size + 1, 0, none⟩) (lt_of_block k7)).trans (row_cell (j := 0) k7 rfl)) (And.intro ((bl.cell (p := ⟨w5.heap.size + 1, 1, none⟩) (lt_of_block k7)).trans (row_cell (j := 1) k7 rfl)) (hvr'.below bl)))))
                  have hwf := bounds_i64 hvr.wf.1
                  have HWF := Lib.hid hwf
                  have CB0 := refBump_any Av3 nv cv3 v3 x.ver.s x.ver.n w7 H7.out.sl (by omega)
                  obtain ⟨hb1, hb2⟩ := bump_may HNX.out.1
                  rw [hb1, hb2] at CB0
                  have CB := Lib.hid CB0
                  have HW6 := Lib.hid hw6
                  have HW7 := Lib.hid hw7
                  obtain ⟨m0, -, d0, d1, -⟩ := HSS.out w7 (Below.refl _ _)
                  clear hsv hrf h5 e0 e1 e2 hvr k6 b6 hs6 hw6 b7 k7 k67 e2' hvr' hw7 hwf CB0 hb1 hb2 CR
                  go_wp2_with fail
                  rw [HW6.out, HW7.out]
                  go_wp2_with fail
                  refine CB.out.mono ?_
                  rintro e w8 ⟨A', n', c', rfl, s8, hc8, o8, b8⟩
                  have hn' : n' = nv := by have h1 := SlI.len s8; have h2 := HVL.out; rw [List.length_set] at h1; omega
                  subst hn'
                  have H8 := Lib.hid (H7.out.newv (Nat.le_refl _) b8 o8)
                  have HB8 := Lib.hid b8
                  obtain ⟨m0, m1, d0, d1, hvr8⟩ := HSS.out w8 b8
                  have CH := Lib.hid (fun (W' : World) (bl : Below w8.heap.size w8 W') => refHolds_any Av3 n' cv3 v3 Ap np cp x.ver.past W' (Sl.below (Sl.below H7.out.sl HB8.out) bl) (by omega) (Sl.below hvr8.sl bl) hvr8.n9 hvr8.wfp)
                  have CC := Lib.hid (fun (W' : World) (bl : Below w8.heap.size w8 W') => refCovers_any Av3 n' cv3 v3 x.ver.s x.ver.n W' (Sl.below (Sl.below H7.out.sl HB8.out) bl) (by omega) HWF.out.1 HWF.out.2)
                  have i5 : (0 : Int) < ((1 : Nat) : Int) := by decide
                  clear s8 hc8 o8 b8 hvr8 CB
                  go_wp2_with fail
                  refine (CH.out _ (Below.refl _ _)).mono ?_
                  rintro e w9 ⟨rfl, b9⟩
                  rw [HNX.out.2.1]
                  obtain ⟨m0, m1, d0, d1, -⟩ := HSS.out w9 (HB8.out.trans (b9.mono HB8.out.size))
                  have H9 := Lib.hid (H8.out.grow b9)
                  have HB9 := Lib.hid b9
                  clear b9 CH H8
                  go_wp2_with fail
                  refine (CC.out _ HB9.out).mono ?_
                  rintro e w10 ⟨rfl, b10⟩
                  rw [HNX.out.2.2]
                  have H10 := Lib.hid (H9.out.grow b10)
                  clear b10 CC H9 HB9 HB8 HSS H7
                  go_wp2
                  go_roundw
                  case rel => exact ⟨m - 1, l3.eraseIdx k, _, A', c', rfl, by go_num, by omega, by have := HEL.out; omega, H10, fun hh => by have h1 := HM.out hh; have h2 := HEL.out; omega⟩
                  case measure => simp [intOf]; omega
              · have HME := Lib.hid (fun (hh : i + 1 = len0) => show readyI l3 v3 = none from absurd (HM.out hh) (by omega))
                go_wp2
                go_roundw
                case rel => exact ⟨i + 1, l3, v3, Av3, nv, cv3, rfl, by go_num, by omega, hl3, rfl, HO3, HME⟩
                case measure => simp [intOf]; omega
      · obtain rfl : i = len0 := by omega
        have HRN := Lib.hid (readyI_none (HN.out rfl))
        have CW := Lib.hid (waitsO HO.out (by omega))
        clear HN
        go_wp2_with fail
        refine CW.out.mono ?_
        rintro e w4 ⟨A, n, c, rows, rfl, hw⟩
        obtain ⟨hn, hrl⟩ := hw.len (Nat.le_refl _)
        subst hn
        have HW := Lib.hid hw
        have H4 := Lib.hid (HO.out.grow hw.below)
        have HRL := Lib.hid hrl
        clear hw hrl HO CW
        go_wp2_with fail
        go_loopw [17] (fun t17 wr => ∃ (k : Nat), t17 = .int .i64 (k : Int) ∧ k ≤ l.length ∧ Hid (Below w4.heap.size w4 wr)) (fun t17 _ => l.length - (intOf t17).toNat)
        case atStart => exact ⟨0, rfl, Nat.zero_le _, Below.refl _ _⟩
        case round =>
          obtain ⟨k, rfl, hk, HB⟩ := hrel
          by_cases hlt2 : k < l.length
          · obtain ⟨y, hy⟩ : ∃ y, rows[k]? = some y := ⟨_, List.getElem?_eq_getElem (by rw [HRL.out]; exact hlt2)⟩
            have hyl : l[k]? = some y.1 := by
              have h1 := congrArg (fun z => z[k]?) HW.out.map
              simp only [List.getElem?_map, hy, List.take_length] at h1
              exact h1.symm
            have HMN := Lib.hid (HRN.out y.1 (List.mem_of_getElem? hyl))
            have hfd := HW.out.fd y (List.mem_of_getElem? hy)
            obtain ⟨bq, oq, rfl, hc⟩ := far_at (Sl.of_own HW.out.own) hy
            have y3 := cell_up (hc 3 _ (by omega) rfl) HB.out
            obtain ⟨bv, ov, Ap, np, cp, hA, hn1, hvr, e0, e1, e2, e3, e4⟩ := ver_at5 (hfd.vs.slv.below HB.out) (rightF_rec hfd.right).2
            rw [hA, hn1] at y3
            have i1 : (0 : Int) ≤ (k : Int) := by omega
            have i2 : (k : Int) < (l.length : Int) := by omega
            have i5 : (0 : Int) < ((1 : Nat) : Int) := by decide
            have hwf := bounds_i64 hvr.wf.1
            have b5 : Below wr.heap.size wr (wr.alloc (.cells #[.int .i64 y.1.ver.s, .int .i64 y.1.ver.n, .slice Ap np cp, .bool y.1.ver.gone, .string y.1.ver.val] 42)) := (Below.refl _ _).alloc (Nat.le_refl _) _
            have k5 := heap_alloc_new wr (.cells #[.int .i64 y.1.ver.s, .int .i64 y.1.ver.n, .slice Ap np cp, .bool y.1.ver.gone, .string y.1.ver.val] 42)
            obtain ⟨w5, hw5⟩ : ∃ w5, wr.alloc (.cells #[.int .i64 y.1.ver.s, .int .i64 y.1.ver.n, .slice Ap np cp, .bool y.1.ver.gone, .string y.1.ver.val] 42) = w5 := ⟨_, rfl⟩
            rw [hw5] at b5 k5
            have H5 := Lib.hid ((H4.out.grow HB.out).grow b5)
            have HSS := Lib.hid (fun (W' : World) (bl : Below w5.heap.size w5 W') => And.intro ((bl.cell (p := ⟨wr.heap.size, 0, none⟩) (lt_of_block k5)).trans (row_cell (j := 0) k5 rfl)) (And.intro ((bl.cell (p := ⟨wr.heap.size, 1, none⟩) (lt_of_block k5)).trans (row_cell (j := 1) k5 rfl)) (And.intro ((bl.cell (p := ⟨wr.heap.size, 2, none⟩) (lt_of_block k5)).trans (row_cell (j := 2) k5 rfl)) ((hvr.below b5).below bl))))
            have CN0 := refNext_any Av nv cv v y.1.ver.s w5 H5.out.sl (by omega)
            obtain ⟨⟨na, nb, ne⟩, hN⟩ : ∃ t, nextOf v y.1.ver.s = t := ⟨_, rfl⟩
            rw [hN] at CN0
            have CN := Lib.hid CN0
            have HNN := Lib.hid hN
            have HW5 := Lib.hid hw5
            have HWF := Lib.hid hwf
            have HB5 := Lib.hid (HB.out.trans (b5.mono HB.out.size))
            clear hy hyl hfd hc hvr hwf b5 k5 hw5 CN0 hN hA hn1
            obtain ⟨d0, d1, d2, -⟩ := HSS.out w5 (Below.refl _ _)
            go_wp2_with fail
            rw [HW5.out]
            go_wp2_with fail
            refine CN.out.mono ?_
            rintro e w6 ⟨rfl, b6⟩
            have k7 := heap_alloc_new w6 (.cells #[.int .i64 na, .int .i64 nb] 39)
            have b7 : Below w5.heap.size w5 (w6.alloc (.cells #[.int .i64 na, .int .i64 nb] 39)) := b6.alloc b6.size _
            obtain ⟨w7, hw7⟩ : ∃ w7, w6.alloc (.cells #[.int .i64 na, .int .i64 nb] 39) = w7 := ⟨_, rfl⟩
            rw [hw7] at k7 b7
            obtain ⟨d0, d1, d2, -⟩ := HSS.out w7 b7
            have HB7 := Lib.hid b7
            have HK7 := Lib.hid k7
            have cc0 := refCovers_any Av nv cv v y.1.ver.s y.1.ver.n w7 (H5.out.grow b7).sl (by omega) HWF.out.1 HWF.out.2
            have HS7 := Lib.hid (fun (W' : World) (bl : Below w7.heap.size w7 W') => bl)
            rw [← hw7] at d0 d1 d2 cc0
            have CC := Lib.hid cc0
            have HW7 := Lib.hid hw7
            clear b6 k7 b7 hw7 CN cc0
            go_wp2_with fail
            refine CC.out.mono ?_
            clear d0 d1 d2
            rw [HW7.out]
            rintro e w8 ⟨rfl, b8⟩
            have HB8 := Lib.hid (HB7.out.trans (b8.mono HB7.out.size))
            obtain ⟨d0, d1, d2, hvr8⟩ := HSS.out w8 HB8.out
            have g0 := (b8.cell (p := ⟨w6.heap.size, 0, none⟩) (lt_of_block HK7.out)).trans (row_cell (j := 0) HK7.out rfl)
            have g1 := (b8.cell (p := ⟨w6.heap.size, 1, none⟩) (lt_of_block HK7.out)).trans (row_cell (j := 1) HK7.out rfl)
            have CH := Lib.hid (refHolds_any Av nv cv v Ap np cp y.1.ver.past w8 (H5.out.grow HB8.out).sl (by omega) hvr8.sl hvr8.n9 hvr8.wfp)
            have HE8 := Lib.hid (HB5.out.trans (HB8.out.mono HB5.out.size))
            have HMM := Lib.hid (show (decide (ne = 0) && (decide (na = y.1.ver.s ∧ nb = y.1.ver.n) && holdsB v y.1.ver.past)) = false from by have := HMN.out; unfold mayB at this; rwa [HNN.out] at this)
            clear b8 hvr8 CC
            cases hc : coversB v y.1.ver.s y.1.ver.n
            · by_cases hne : ne = 0
              · subst hne
                obtain ⟨db, hdb⟩ : ∃ db, decide (na = y.1.ver.s ∧ nb = y.1.ver.n) = db := ⟨_, rfl⟩
                have q1 := eq_dot na nb y.1.ver.s y.1.ver.n
                rw [hdb] at q1
                have HMM2 := Lib.hid (show (db && holdsB v y.1.ver.past) = false from by have := HMM.out; rw [hdb] at this; simpa using this)
                clear hdb hc
                cases db
                · go_wp2
                  go_roundw
                  case rel => exact ⟨k + 1, by go_num, by omega, HE8⟩
                  case measure => simp [intOf]; omega
                · have hh : holdsB v y.1.ver.past = false := by have := HMM2.out; simpa using this
                  rw [hh] at CH
                  clear hh
                  go_wp2_with fail
                  refine CH.out.mono ?_
                  rintro e w9 ⟨rfl, b9⟩
                  have HE9 := Lib.hid (HE8.out.trans (b9.mono HE8.out.size))
                  clear b9 CH
                  go_wp2
                  go_roundw
                  case rel => exact ⟨k + 1, by go_num, by omega, HE9⟩
                  case measure => simp [intOf]; omega
              · have q2 : (ne == 0) = false := beq_eq_false_iff_ne.2 hne
                clear hc
                go_wp2
                go_roundw
                case rel => exact ⟨k + 1, by go_num, by omega, HE8⟩
                case measure => simp [intOf]; omega
            · clear hc
              go_wp2
              go_roundw
              case rel => exact ⟨k + 1, by go_num, by omega, HE8⟩
              case measure => simp [intOf]; omega
          · obtain rfl : k = l.length := by omega
            have HE := Lib.hid (H4.out.grow HB.out).below_
            go_wp2
            go_ret
            exact ⟨rfl, HE.out⟩
end Go.Proofs.Ytilagblpamhmkaa
