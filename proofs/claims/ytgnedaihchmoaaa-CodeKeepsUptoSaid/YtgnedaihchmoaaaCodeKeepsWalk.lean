/-
  firthlaw06.CodeKeeps. (Printed by tools/codelaws.py.)
-/
import Derived.Test.YtgnedaihchmoaaaCodeLaws
import Derived.Test.YtgnedaihchmoaaaCodeSpoil
import Derived.Test.YtgnedaihchmoaaaIncLoop
namespace Go.Proofs.Ytgnedaihchmoaaa
open Go.RowKit
set_option linter.unusedVariables false

set_option maxHeartbeats 8000000 in
set_option maxRecDepth 100000 in
theorem codeKeeps_walk (cs : List Value) (x : msgSh.T) (W : World) (s0 : Rd W msgSh cs x) (u0 : shB msgSh x ≤ 1048576) :
    Calls Try.prog 7 #[.agg cs.toArray] W (BoolE W true) := by
  obtain ⟨y, hcs, hr, hn⟩ := msg_open s0
  rw [hcs]
  clear hcs s0
  obtain ⟨⟨kind, fs, fn, ts, tn, id, mn, fo, code, key, recs, vec, path, hashes, route⟩, Ar, nr, cr, Av, nv, cv, Ap, np, cp, Ah, nh, ch, Ao, no, co⟩ := y
  simp only [Mx.cells] at *
  have bA : Below W.heap.size W (W.alloc (.cells #[.int .i64 kind, .int .i64 fs, .int .i64 fn, .int .i64 ts, .int .i64 tn, .int .i64 id, .int .i64 mn, .int .i64 fo, .int .i64 code, .string key, .slice Ar nr cr, .slice Av nv cv, .slice Ap np cp, .slice Ah nh ch, .slice Ao no co] 30)) := (Below.refl _ _).alloc (Nat.le_refl _) _
  have hb := heap_alloc_new W (.cells #[.int .i64 kind, .int .i64 fs, .int .i64 fn, .int .i64 ts, .int .i64 tn, .int .i64 id, .int .i64 mn, .int .i64 fo, .int .i64 code, .string key, .slice Ar nr cr, .slice Av nv cv, .slice Ap np cp, .slice Ah nh ch, .slice Ao no co] 30)
  have HR := Lib.hid (hr.below bA)
  have hnr : nr ≤ 1048576 := by omega
  have c1 := putMsg_any _ ⟨⟨kind, fs, fn, ts, tn, id, mn, fo, code, key, recs, vec, path, hashes, route⟩, Ar, nr, cr, Av, nv, cv, Ap, np, cp, Ah, nh, ch, Ao, no, co⟩ HR.out hnr
  simp only [Mx.cells] at c1
  have HWF := Lib.hid hr.wf
  have HA := Lib.hid bA
  have HX := Lib.hid hb
  have p0 := row_cell (j := 0) hb rfl
  have p1 := row_cell (j := 1) hb rfl
  have p2 := row_cell (j := 2) hb rfl
  have p3 := row_cell (j := 3) hb rfl
  have p4 := row_cell (j := 4) hb rfl
  have p5 := row_cell (j := 5) hb rfl
  have p6 := row_cell (j := 6) hb rfl
  have p7 := row_cell (j := 7) hb rfl
  have p8 := row_cell (j := 8) hb rfl
  have p9 := row_cell (j := 9) hb rfl
  have p10 := row_cell (j := 10) hb rfl
  have p11 := row_cell (j := 11) hb rfl
  have p12 := row_cell (j := 12) hb rfl
  have p13 := row_cell (j := 13) hb rfl
  have p14 := row_cell (j := 14) hb rfl
  have HM := Lib.hid hr
  clear hr bA hb hn u0 hnr HR
  rcases putMsgE_cases ⟨kind, fs, fn, ts, tn, id, mn, fo, code, key, recs, vec, path, hashes, route⟩ with ⟨q, hq, hE⟩ | ⟨hR, hL, hE⟩
  · rw [hE] at c1
    have C1 := Lib.hid c1
    have t3 : (q == 0) = false := by rw [beq_eq_false_iff_ne]; exact hq
    have t4 : (q != 0) = true := by rw [bne_iff_ne]; exact hq
    clear c1 hE hq HWF HX HM
    go_enter Try.func7, Try.ntmps7
    go_wp2_with fail
    refine C1.out.mono ?_
    rintro e w1 ⟨A1, n1, c1, rfl, sx, hc1, -, b2, -⟩
    have HB1 := Lib.hid (HA.out.trans (b2.mono HA.out.size))
    clear sx b2 HA p0 p1 p2 p3 p4 p5 p6 p7 p8 p9 p10 p11 p12 p13 p14
    have C9 := Lib.hid (awake_any w1)
    clear C1
    go_wp2_with fail
    refine C9.out.mono ?_
    rintro e w2 ⟨rfl, b3⟩
    have HB2 := Lib.hid (HB1.out.trans (b3.mono HB1.out.size))
    have C8 := Lib.hid (awake_any w2)
    clear C9 b3 HB1
    go_wp2_with fail
    refine C8.out.mono ?_
    rintro e w3 ⟨rfl, b4⟩
    have HB3 := Lib.hid (HB2.out.trans (b4.mono HB2.out.size))
    clear C8 b4 HB2
    go_wp2
    go_ret
    exact ⟨rfl, HB3.out⟩
  · rw [hE] at c1
    have hrd0 := msgRd_put hR HWF.out hL
    obtain ⟨L1, hL1⟩ : ∃ L1, putF (msgB ⟨kind, fs, fn, ts, tn, id, mn, fo, code, key, recs, vec, path, hashes, route⟩) = L1 := ⟨_, rfl⟩
    have hl1 : L1.length ≤ 1048600 := by rw [← hL1, putF_len]; have := putNum_len (msgB ⟨kind, fs, fn, ts, tn, id, mn, fo, code, key, recs, vec, path, hashes, route⟩).length; omega
    rw [hL1] at c1 hrd0
    have C1 := Lib.hid c1
    have HRD := Lib.hid hrd0
    clear c1 hE hrd0 hL1 hR hL HWF
    go_enter Try.func7, Try.ntmps7
    go_wp2_with fail
    refine C1.out.mono ?_
    rintro e w1 ⟨A1, n1, c1, rfl, sx, hc1, -, b2, o1⟩
    have HB1 := Lib.hid (HA.out.trans (b2.mono HA.out.size))
    have HX1 := Lib.hid ((b2.block _ (lt_of_block HX.out)).trans HX.out)
    have HS1 := Lib.hid sx
    have HO1 := Lib.hid (own_lower o1 (show W.heap.size + 1 ≤ _ by simp))
    have hn1b : n1 ≤ 1048600 := by have := sx.len; omega
    have C2 := Lib.hid (awake_any w1)
    have hsW := HB1.out.size
    clear C1 sx b2 o1 HA HX p0 p1 p2 p3 p4 p5 p6 p7 p8 p9 p10 p11 p12 p13 p14
    go_wp2_with fail
    refine C2.out.mono ?_
    rintro e w2 ⟨rfl, b2⟩
    have HB2 := Lib.hid (HB1.out.trans (b2.mono HB1.out.size))
    have HX2 := Lib.hid ((b2.block _ (lt_of_block HX1.out)).trans HX1.out)
    have HB5s := Lib.hid (show W.heap.size < w2.heap.size from lt_of_block HX2.out)
    have HO2 := Lib.hid (own_below HO1.out b2)
    have HGB := Lib.hid (show ∀ g, (Value.slice A1 n1 c1).ownBlock = some g → W.heap.size + 1 ≤ g ∧ g < w2.heap.size from fun g hg => ⟨(HO1.out.lt g hg).1, by have h1 := (HO1.out.lt g hg).2; have h2 := b2.size; omega⟩)
    have s2 := Sl.below HS1.out b2
    have c3 := msg_any w2 A1 n1 c1 L1 s2 hc1 (by omega)
    rw [HRD.out] at c3
    have C3 := Lib.hid c3
    have HS2 := Lib.hid s2
    clear C2 b2 c3 s2 HB1 HX1 HS1 HO1
    go_wp2_with fail
    refine C3.out.mono ?_
    rintro e w3 ⟨v, rfl, ⟨x3, hm3, hv, hO3⟩, b3⟩
    obtain ⟨⟨kindc, fsc, fnc, tsc, tnc, idc, mnc, foc, codec, keyc, recsc, vecc, pathc, hashesc, routec⟩, Arc, nrc, crc, Avc, nvc, cvc, Apc, npc, cpc, Ahc, nhc, chc, Aoc, noc, coc⟩ := x3
    simp only [Mx.cells] at hv hm3 hO3
    subst hv
    have bz : Below w3.heap.size w3 (w3.alloc (.cells #[.int .i64 kindc, .int .i64 fsc, .int .i64 fnc, .int .i64 tsc, .int .i64 tnc, .int .i64 idc, .int .i64 mnc, .int .i64 foc, .int .i64 codec, .string keyc, .slice Arc nrc crc, .slice Avc nvc cvc, .slice Apc npc cpc, .slice Ahc nhc chc, .slice Aoc noc coc] 30)) := (Below.refl _ _).alloc (Nat.le_refl _) _
    have hz := heap_alloc_new w3 (.cells #[.int .i64 kindc, .int .i64 fsc, .int .i64 fnc, .int .i64 tsc, .int .i64 tnc, .int .i64 idc, .int .i64 mnc, .int .i64 foc, .int .i64 codec, .string keyc, .slice Arc nrc crc, .slice Avc nvc cvc, .slice Apc npc cpc, .slice Ahc nhc chc, .slice Aoc noc coc] 30)
    have hnrc := hO3.row.lr
    have hnvc := hO3.row.lv
    simp only at hnrc hnvc
    have c4 := msg_any (w3.alloc (.cells #[.int .i64 kindc, .int .i64 fsc, .int .i64 fnc, .int .i64 tsc, .int .i64 tnc, .int .i64 idc, .int .i64 mnc, .int .i64 foc, .int .i64 codec, .string keyc, .slice Arc nrc crc, .slice Avc nvc cvc, .slice Apc npc cpc, .slice Ahc nhc chc, .slice Aoc noc coc] 30)) A1 n1 c1 L1 (Sl.below (Sl.below HS2.out b3) bz) hc1 (by omega)
    rw [HRD.out] at c4
    have C4 := Lib.hid c4
    have HB3 := Lib.hid ((HB2.out.trans (b3.mono HB2.out.size)).trans (bz.mono (HB2.out.trans (b3.mono HB2.out.size)).size))
    have HBA := Lib.hid b3
    have HBZ := Lib.hid bz
    have HX3 := Lib.hid ((bz.block _ (lt_of_block ((b3.block _ (lt_of_block HX2.out)).trans HX2.out))).trans ((b3.block _ (lt_of_block HX2.out)).trans HX2.out))
    have HO3 := Lib.hid (own_below (own_below HO2.out b3) bz)
    have HX3' := Lib.hid hz
    have HOX := Lib.hid hO3
    have hs23 := b3.size
    clear C3 b3 bz hz c4 hO3 hm3 HB2 HX2 HO2 HS2
    go_wp2_with fail
    refine C4.out.mono ?_
    rintro e w4 ⟨v, rfl, ⟨x4, hm4, hv, hO4⟩, b4⟩
    obtain ⟨⟨kindd, fsd, fnd, tsd, tnd, idd, mnd, fod, coded, keyd, recsd, vecd, pathd, hashesd, routed⟩, Ard, nrd, crd, Avd, nvd, cvd, Apd, npd, cpd, Ahd, nhd, chd, Aod, nod, cod⟩ := x4
    simp only [Mx.cells] at hv hm4 hO4
    subst hv
    have bz : Below w4.heap.size w4 (w4.alloc (.cells #[.int .i64 kindd, .int .i64 fsd, .int .i64 fnd, .int .i64 tsd, .int .i64 tnd, .int .i64 idd, .int .i64 mnd, .int .i64 fod, .int .i64 coded, .string keyd, .slice Ard nrd crd, .slice Avd nvd cvd, .slice Apd npd cpd, .slice Ahd nhd chd, .slice Aod nod cod] 30)) := (Below.refl _ _).alloc (Nat.le_refl _) _
    have hz := heap_alloc_new w4 (.cells #[.int .i64 kindd, .int .i64 fsd, .int .i64 fnd, .int .i64 tsd, .int .i64 tnd, .int .i64 idd, .int .i64 mnd, .int .i64 fod, .int .i64 coded, .string keyd, .slice Ard nrd crd, .slice Avd nvd cvd, .slice Apd npd cpd, .slice Ahd nhd chd, .slice Aod nod cod] 30)
    have HB5 := Lib.hid ((HB3.out.trans (b4.mono HB3.out.size)).trans (bz.mono (HB3.out.trans (b4.mono HB3.out.size)).size))
    have HBM := Lib.hid (b4.trans (bz.mono b4.size))
    have hO5 := own_below (own_below HO3.out b4) bz
    have HX5 := Lib.hid ((bz.block _ (lt_of_block ((b4.block _ (lt_of_block HX3.out)).trans HX3.out))).trans ((b4.block _ (lt_of_block HX3.out)).trans HX3.out))
    have HX5' := Lib.hid ((bz.block _ (lt_of_block ((b4.block _ (lt_of_block HX3'.out)).trans HX3'.out))).trans ((b4.block _ (lt_of_block HX3'.out)).trans HX3'.out))
    have HX6 := Lib.hid hz
    have HOY := Lib.hid (hO4.below bz)
    have HM4 := Lib.hid hm4
    have hs34 := b4.size
    simp at hs34
    clear C4 b4 bz hz hm4 hO4 HB3 HX3 HX3' HO3 HRD hl1
    go_wp2
    generalize w4.alloc (.cells #[.int .i64 kindd, .int .i64 fsd, .int .i64 fnd, .int .i64 tsd, .int .i64 tnd, .int .i64 idd, .int .i64 mnd, .int .i64 fod, .int .i64 coded, .string keyd, .slice Ard nrd crd, .slice Avd nvd cvd, .slice Apd npd cpd, .slice Ahd nhd chd, .slice Aod nod cod] 30) = w5 at *
    go_loopw [9] (fun i uu => ∃ (k : Nat) (xs : List UInt8), i = .int .i64 (k : Int) ∧ k ≤ n1 ∧ uu.ownsRow ((W.heap.size + 1)) 5 1 (.slice A1 n1 c1) n1 (bsV xs) ∧ (w5).grownBy uu (Value.slice A1 n1 c1).ownBlock) (fun i _ => n1 - (intOf i).toNat)
    case atStart => exact ⟨0, _, rfl, Nat.zero_le _, hO5, World.grownBy.refl _ _⟩
    case round =>
      obtain ⟨k, xs, rfl, hk, hown, hg⟩ := hrel
      by_cases hlt : k < n1
      · obtain ⟨g, cap, hv, _, _⟩ := hown.form (by omega)
        injection hv with hv1 hv2 hv3
        have hxl : xs.length = n1 := by have := hown.1; rw [bsV_length] at this; omega
        have hv1' := hv1
        rw [hv1, hv3] at hown hg
        obtain ⟨x, hx, hcell0⟩ : ∃ x : UInt8, xs[k]? = some x ∧ wr.cell? ⟨g, k, none⟩ = some (bV x) := by
          refine ⟨xs[k], List.getElem?_eq_getElem (by omega), ?_⟩
          rw [hown.cellAt k (by omega)]
          simp [bsV, List.getElem?_eq_getElem (show k < xs.length by omega)]
        obtain ⟨cc, hcc, hcx⟩ : ∃ cc : Nat, cc < 256 ∧ bV x = .int .u8 (cc : Int) := ⟨x.toNat, UInt8.toNat_lt x, rfl⟩
        rw [hcx] at hcell0
        obtain ⟨y, hy⟩ := inc_byte cc hcc
        have hfr := hown.frozenAt k
        obtain ⟨R1, R2⟩ := hown.stored k (.int .u8 (IntKind.u8.wrap ((cc : Int) + 1)))
        rw [hy, bsV_set] at R1
        rw [← hy] at R1
        have R2 := World.grownBy.trans hg R2
        have HR := Lib.hid (And.intro R1 R2)
        have HV := Lib.hid (And.intro hv1 hv3)
        clear R1 R2 hown hg hxl hx hcx hy hv1'
        subst hv1 hv3
        go_wp2
        go_roundw
        case rel => exact ⟨k + 1, _, by go_num, by omega, HR.out.1, HR.out.2⟩
        case measure => simp [intOf]; omega
      · obtain rfl : k = n1 := by omega
        obtain ⟨u1, rfl⟩ : ∃ u1 : World, u1 = wr := ⟨_, rfl⟩
        have FG := Lib.hid (Fr.of_grown hg)
        clear hown hg hO5
        have b35 : Below w3.heap.size w3 w5 := HBZ.out.trans (HBM.out.mono HBZ.out.size)
        have hs5 := HB5.out.size
        have hb5 := b35.size
        have HBu := Lib.hid (HB5.out.trans (FG.out.below (B := W.heap.size) (fun i hi => by have := HGB.out i hi.symm; omega) hs5))
        have HXm := Lib.hid ((FG.out.block _ (lt_of_block HX5.out) (fun e => by have := HGB.out _ e.symm; omega)).trans HX5.out)
        have HXx := Lib.hid ((FG.out.block _ (lt_of_block HX5'.out) (fun e => by have := HGB.out _ e.symm; omega)).trans HX5'.out)
        have HXy := Lib.hid ((FG.out.block _ (lt_of_block HX6.out) (fun e => by have := HGB.out _ e.symm; omega)).trans HX6.out)
        have HOYu := Lib.hid (HOY.out.keepF FG.out (fun i hi e => by have := HGB.out i e.symm; simp at hi; omega))
        obtain ⟨rows, vrs, hsp, hr64, hv24⟩ := SpoilM.start (w0 := w3) (w := u1) HOX.out (fun h => own_keepF (own_below h b35) FG.out (fun i hi e => by have := HGB.out i e.symm; omega))
        simp only at hsp
        have HSP := Lib.hid hsp
        have HR64 := Lib.hid hr64
        have HV24 := Lib.hid hv24
        have hsu := HBu.out.size
        clear hsp hr64 hv24 b35 HX5 HX5' HX6 HOY HOX HB5 HBM HBZ HBA FG
        go_wp2
        go_loopw [10] (fun t wr => ∃ (i : Nat), t = .int .i64 (i : Int) ∧ i ≤ nrc ∧ Hid (SpoilM u1 wr w2.heap.size w3.heap.size Arc nrc crc rows vrs Avc nvc cvc)) (fun t _ => nrc - (intOf t).toNat)
        case atStart => exact ⟨0, rfl, Nat.zero_le _, HSP⟩
        case round =>
          obtain ⟨i, rfl, hi', HQ⟩ := hrel
          have hbx := (HQ.out.fr.block _ (lt_of_block HXx.out) (fun h => by have h1 : w2.heap.size ≤ w3.heap.size ∧ w3.heap.size < w3.heap.size := h; omega)).trans HXx.out
          have p8 := row_cell (j := 10) hbx rfl
          have p9 := row_cell (j := 11) hbx rfl
          clear hbx
          by_cases hlt : i < nrc
          · obtain ⟨g, y, vr, hg, hy, hv, hvl, hcell⟩ := HQ.out.rec_at hlt
            subst hg
            have hn64 := HR64.out i y hy
            have HVM := Lib.hid (List.mem_of_getElem? hv)
            have HYY := Lib.hid hy
            have HVV := Lib.hid hv
            obtain ⟨rc, Av', nv', cv'⟩ := y
            simp only at hvl hcell hn64
            clear hy hv
            obtain ⟨wm, rfl⟩ : ∃ wm : World, wm = wr := ⟨_, rfl⟩
            go_wp2
            go_loopw [11] (fun t wr => ∃ (k : Nat), t = .int .i64 (k : Int) ∧ k ≤ nv' ∧ Hid (SpoilM u1 wr w2.heap.size w3.heap.size (some ⟨g, 0, none⟩) nrc crc rows vrs Avc nvc cvc)) (fun t _ => nv' - (intOf t).toNat)
            case atStart => exact ⟨0, rfl, Nat.zero_le _, HQ⟩
            case round =>
              obtain ⟨k, rfl, hk, HQ⟩ := hrel
              have hbx := (HQ.out.fr.block _ (lt_of_block HXx.out) (fun h => by have h1 : w2.heap.size ≤ w3.heap.size ∧ w3.heap.size < w3.heap.size := h; omega)).trans HXx.out
              have p8 := row_cell (j := 10) hbx rfl
              have hc1' := HQ.out.rec_cell rfl HYY.out hlt
              simp only at hc1'
              clear hbx
              by_cases hlt2 : k < nv'
              · obtain ⟨g2, z, hA2, hz, f2, ⟨u4, f4⟩, fz, hB2, hS2⟩ := HQ.out.ver_at HYY.out HVV.out hlt2
                simp only at hA2
                subst hA2
                have hn24 := HV24.out _ HVM.out _ (List.mem_of_getElem? hz)
                have HZZ := Lib.hid hz
                obtain ⟨vz, Ap', np', cp'⟩ := z
                simp only at f2 hn24
                have z4 := fz (k * 5 + 4)
                have HN := Lib.hid (HQ.out.setVal (k := k) HYY.out HVV.out rfl (.string ⟨#[115, 112, 111, 105, 108, 116]⟩))
                clear hz fz
                go_wp2
                go_loopw [12] (fun t wr => ∃ (j : Nat), t = .int .i64 (j : Int) ∧ j ≤ np' ∧ Hid (SpoilM u1 wr w2.heap.size w3.heap.size (some ⟨g, 0, none⟩) nrc crc rows vrs Avc nvc cvc)) (fun t _ => np' - (intOf t).toNat)
                case atStart => exact ⟨0, rfl, Nat.zero_le _, HN⟩
                case round =>
                  obtain ⟨j, rfl, hj, HQ⟩ := hrel
                  have hbx := (HQ.out.fr.block _ (lt_of_block HXx.out) (fun h => by have h1 : w2.heap.size ≤ w3.heap.size ∧ w3.heap.size < w3.heap.size := h; omega)).trans HXx.out
                  have p8 := row_cell (j := 10) hbx rfl
                  have hc1' := HQ.out.rec_cell rfl HYY.out hlt
                  have f2 := HQ.out.ver_cell HYY.out HVV.out rfl hlt2 HZZ.out
                  simp only at hc1' f2
                  clear hbx
                  by_cases hlt3 : j < np'
                  · obtain ⟨g3, hA3, ⟨u2, p2⟩, pz, hB3, hS3⟩ := HQ.out.past_at HYY.out HVV.out HZZ.out (j := j) hlt3
                    simp only at hA3
                    subst hA3
                    have z2 := pz (j * 3 + 2)
                    have HN2 := Lib.hid (HQ.out.setPast (j := j * 3 + 2) HYY.out HVV.out HZZ.out rfl (.int .i64 (-1)))
                    clear pz
                    go_wp2
                    go_roundw
                    case rel => exact ⟨j + 1, by go_num, by omega, HN2⟩
                    case measure => simp [intOf]; omega
                  · obtain rfl : j = np' := by omega
                    go_wp2
                    go_roundw
                    case rel => exact ⟨k + 1, by go_num, by omega, HQ⟩
                    case measure => simp [intOf]; omega
              · obtain rfl : k = nv' := by omega
                go_wp2
                go_roundw
                case rel => exact ⟨i + 1, by go_num, by omega, HQ⟩
                case measure => simp [intOf]; omega
          · obtain rfl : i = nrc := by omega
            obtain ⟨wm, rfl⟩ : ∃ wm : World, wm = wr := ⟨_, rfl⟩
            go_wp2
            go_loopw [13] (fun t wr => ∃ (j : Nat), t = .int .i64 (j : Int) ∧ j ≤ nvc ∧ Hid (SpoilM u1 wr w2.heap.size w3.heap.size Arc i crc rows vrs Avc nvc cvc)) (fun t _ => nvc - (intOf t).toNat)
            case atStart => exact ⟨0, rfl, Nat.zero_le _, HQ⟩
            case round =>
              obtain ⟨j, rfl, hj, HQ⟩ := hrel
              have hbx := (HQ.out.fr.block _ (lt_of_block HXx.out) (fun h => by have h1 : w2.heap.size ≤ w3.heap.size ∧ w3.heap.size < w3.heap.size := h; omega)).trans HXx.out
              have p9 := row_cell (j := 11) hbx rfl
              clear hbx
              by_cases hlt3 : j < nvc
              · obtain ⟨g3, hA3, ⟨u2, p2⟩, pz, hB3, hS3⟩ := HQ.out.vec_at (j := j) hlt3
                subst hA3
                have z2 := pz j
                have HN2 := Lib.hid (HQ.out.setVec (j := j) rfl (.int .i64 (-1)))
                clear pz
                go_wp2
                go_roundw
                case rel => exact ⟨j + 1, by go_num, by omega, HN2⟩
                case measure => simp [intOf]; omega
              · obtain rfl : j = nvc := by omega
                have hfr := HQ.out.fr
                have bE : Below W.heap.size u1 wr := hfr.below (fun i hi => by have h1 : w2.heap.size ≤ i ∧ i < w3.heap.size := hi; have := HB5s.out; omega) (by omega)
                have HBE := Lib.hid (HBu.out.trans bE)
                have hxm := (hfr.block _ (lt_of_block HXm.out) (fun h => by have h1 : w2.heap.size ≤ W.heap.size ∧ W.heap.size < w3.heap.size := h; have := HB5s.out; omega)).trans HXm.out
                have hxy := (hfr.block _ (lt_of_block HXy.out) (fun h => by have h1 : w2.heap.size ≤ w4.heap.size ∧ w4.heap.size < w3.heap.size := h; omega)).trans HXy.out
                have C9 := Lib.hid (same_true ⟨⟨kindd, fsd, fnd, tsd, tnd, idd, mnd, fod, coded, keyd, recsd, vecd, pathd, hashesd, routed⟩, Ard, nrd, crd, Avd, nvd, cvd, Apd, npd, cpd, Ahd, nhd, chd, Aod, nod, cod⟩ ⟨⟨kind, fs, fn, ts, tn, id, mn, fo, code, key, recs, vec, path, hashes, route⟩, Ar, nr, cr, Av, nv, cv, Ap, np, cp, Ah, nh, ch, Ao, no, co⟩ HM4.out wr (HOYu.out.keepF hfr (fun i hi h => by have h1 : w2.heap.size ≤ i ∧ i < w3.heap.size := h; simp at hi; omega)).row (HM.out.below HBE.out))
                simp only [Mx.cells] at C9
                have p0 := row_cell (j := 0) hxm rfl
                have p1 := row_cell (j := 1) hxm rfl
                have p2 := row_cell (j := 2) hxm rfl
                have p3 := row_cell (j := 3) hxm rfl
                have p4 := row_cell (j := 4) hxm rfl
                have p5 := row_cell (j := 5) hxm rfl
                have p6 := row_cell (j := 6) hxm rfl
                have p7 := row_cell (j := 7) hxm rfl
                have p8 := row_cell (j := 8) hxm rfl
                have p9 := row_cell (j := 9) hxm rfl
                have p10 := row_cell (j := 10) hxm rfl
                have p11 := row_cell (j := 11) hxm rfl
                have p12 := row_cell (j := 12) hxm rfl
                have p13 := row_cell (j := 13) hxm rfl
                have p14 := row_cell (j := 14) hxm rfl
                have q0 := row_cell (j := 0) hxy rfl
                have q1 := row_cell (j := 1) hxy rfl
                have q2 := row_cell (j := 2) hxy rfl
                have q3 := row_cell (j := 3) hxy rfl
                have q4 := row_cell (j := 4) hxy rfl
                have q5 := row_cell (j := 5) hxy rfl
                have q6 := row_cell (j := 6) hxy rfl
                have q7 := row_cell (j := 7) hxy rfl
                have q8 := row_cell (j := 8) hxy rfl
                have q9 := row_cell (j := 9) hxy rfl
                have q10 := row_cell (j := 10) hxy rfl
                have q11 := row_cell (j := 11) hxy rfl
                have q12 := row_cell (j := 12) hxy rfl
                have q13 := row_cell (j := 13) hxy rfl
                have q14 := row_cell (j := 14) hxy rfl
                clear hfr bE hxm hxy HQ
                go_wp2_with fail
                refine C9.out.mono ?_
                rintro e w9 ⟨rfl, b9⟩
                have HB9 := Lib.hid (HBE.out.trans (b9.mono HBE.out.size))
                clear b9 C9
                go_wp2
                go_ret
                exact ⟨rfl, HB9.out⟩
end Go.Proofs.Ytgnedaihchmoaaa
